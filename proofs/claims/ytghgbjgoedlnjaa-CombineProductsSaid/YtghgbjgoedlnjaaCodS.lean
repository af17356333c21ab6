/- The reference's Outer and Product of two codes without an error; one result of both. -/
import Derived.Test.YtghgbjgoedlnjaaCodR
import Derived.Test.YtghgbjgoedlnjaaCodQ
namespace Go.Proofs.Ytghgbjgoedlnjaa
open Go.RowKit Cw
attribute [local go_sem] Oper.semAt_some

/-- The products of the entries of two rows, row by row. -/
def outR {D : Desc} (n : Nat) (f h : Nat → R D) : Nat → R D := fun c => f (c / n) * h (c % n)
theorem rowL_snoc (D : Desc) (a : Nat) (f : Nat → R D) : rowL D a f ++ [ci (f a)] = rowL D (a + 1) f := by unfold rowL; rw [lst_succ]
set_option maxRecDepth 100000 in
set_option maxHeartbeats 4000000 in
theorem Outer14_any (D : Desc) (m1 m2 : Nat) (f h : Nat → R D) (A A1 A2 : Option Addr) (c c1 c2 : Nat) (w : World) (hr : Rd w w.heap.size A (modL D)) (hr1 : Rd w w.heap.size A1 (rowL D m1 f)) (hr2 : Rd w w.heap.size A2 (rowL D m2 h)) (hm1 : m1 ≤ 64) (hm2 : m2 ≤ 64) :
    Calls Try.prog 61 #[.agg #[.int .i64 D.p, .int .i64 D.m, .slice A D.mod.length c], .slice A1 m1 c1, .slice A2 m2 c2] w (GivesA w.heap.size (rowL D (m2 * m1) (outR m2 f h)) w) := by
  have hM := fun x y W g => Mul_any D x y A c W g
  obtain ⟨Z, hZ⟩ : ∃ Z, Z = w.alloc (.cells #[.int .i64 D.p, .int .i64 D.m, .slice A D.mod.length c] 24) := ⟨_, rfl⟩
  have hB : Below w.heap.size w Z := by rw [hZ]; exact (Below.refl _ _).alloc (Nat.le_refl _) _
  have k0 := Lib.hid (show Z.cell? ⟨w.heap.size, 0, none⟩ = some (.int .i64 D.p) ∧ Z.cell? ⟨w.heap.size, 1, none⟩ = some (.int .i64 D.m) ∧ Z.cell? ⟨w.heap.size, 2, none⟩ = some (.slice A D.mod.length c) from by rw [hZ]; exact alloc3 w _ _ _ _)
  have hlt0 : w.heap.size < Z.heap.size := by rw [hZ]; simp
  replace hZ := Lib.hid hZ
  unfold GivesA
  go_enter Try.func61, Try.ntmps61
  go_wp2_with (fail)
  rw [← hZ.out]
  go_loopw [8, 7, 9] (fun iS vS _ wr => ∃ i : Nat, i ≤ m1 ∧ iS = .int .i64 i ∧ Own wr Z.heap.size vS (rowL D (m2 * i) (outR m2 f h)) ∧ Below Z.heap.size Z wr) (fun iS _ _ _ => m1 - (intOf iS).toNat)
  case atStart => exact ⟨0, by omega, rfl, by rw [Nat.mul_zero]; exact Own.nil _ _, Below.refl _ _⟩
  case round =>
    obtain ⟨i, hi, rfl, how, hbw⟩ := hrel
    obtain ⟨w3, rfl⟩ : ∃ w3 : World, w3 = wr := ⟨_, rfl⟩
    by_cases him : i < m1
    · have hi0 : (0 : Int) ≤ (i : Int) := by omega
      have hi1 : (i : Int) < (m1 : Int) := by omega
      obtain ⟨b1, o1, rfl, hb1, hc1⟩ := hr1.at_ (show i < (rowL D m1 f).length by rw [rowL_length]; exact him)
      rw [rowL_get D f him] at hc1
      go_wp2_with (fail)
      go_loopw [9, 7] (fun iS vS wr => ∃ j : Nat, j ≤ m2 ∧ iS = .int .i64 j ∧ Own wr Z.heap.size vS (rowL D (m2 * i + j) (outR m2 f h)) ∧ Below Z.heap.size Z wr) (fun iS _ _ => m2 - (intOf iS).toNat)
      case atStart => exact ⟨0, by omega, rfl, by rw [Nat.add_zero]; exact how, hbw⟩
      case round =>
        obtain ⟨j, hj, rfl, how4, hbx⟩ := hrel
        obtain ⟨w4, rfl⟩ : ∃ w4 : World, w4 = wr := ⟨_, rfl⟩
        have hB4 := hB.trans (hbx.mono hB.size)
        by_cases hjm : j < m2
        · have hj0 : (0 : Int) ≤ (j : Int) := by omega
          have hj1 : (j : Int) < (m2 : Int) := by omega
          obtain ⟨b2, o2, rfl, hb2, hc2⟩ := hr2.at_ (show j < (rowL D m2 h).length by rw [rowL_length]; exact hjm)
          rw [rowL_get D h hjm] at hc2
          have hd1 := (hB4.cell (p := ⟨b1, o1 + i, none⟩) hb1).trans hc1
          have hd2 := (hB4.cell (p := ⟨b2, o2 + j, none⟩) hb2).trans hc2
          have hM4 := hM (ci (f i)) (ci (h j)) w4.drew ((hr.below hB4).more hB4.size).drew
          rw [eli_ci, eli_ci] at hM4
          have hsn := rowL_snoc D (m2 * i + j) (outR m2 f h)
          have hval : ci (outR m2 f h (m2 * i + j)) = ci (f i * h j) := by unfold outR; rw [(divmod_mul hjm).1, (divmod_mul hjm).2]
          rw [hval] at hsn
          generalize ci (f i * h j) = y3 at *
          generalize hy1 : ci (f i) = y1 at *
          generalize hy2 : ci (h j) = y2 at *
          have kk := Lib.hid (show (w4.cell? ⟨w.heap.size, 0, none⟩ = some (.int .i64 D.p) ∧ w4.cell? ⟨w.heap.size, 1, none⟩ = some (.int .i64 D.m) ∧ w4.cell? ⟨w.heap.size, 2, none⟩ = some (.slice A D.mod.length c)) ∧ w4.cell? ⟨b1, o1 + i, none⟩ = some (.int .i64 y1) ∧ w4.cell? ⟨b2, o2 + j, none⟩ = some (.int .i64 y2) from ⟨keep3 hbx hlt0 k0.out, hd1, hd2⟩)
          have x1 : w.heap.size < w4.heap.size := Nat.lt_of_lt_of_le hlt0 hbx.size
          have x2 : b1 < w4.heap.size := Nat.lt_of_lt_of_le hb1 hB4.size
          have x3 : b2 < w4.heap.size := Nat.lt_of_lt_of_le hb2 hB4.size
          have hZ4 : Z.heap.size ≤ w4.heap.size := hbx.size
          have howH := how4
          obtain ⟨Av, cv, rfl, -⟩ := how4.form
          have hmi : m2 * i ≤ 64 * 64 := Nat.mul_le_mul (by omega) (by omega)
          have hle : (rowL D (m2 * i + j) (outR m2 f h)).length + [y3].length ≤ 1000000000 := by rw [rowL_length]; simp; omega
          replace hM4 := Lib.hid hM4
          replace hsn := Lib.hid hsn
          replace hval := Lib.hid hval
          replace hy1 := Lib.hid hy1
          replace hy2 := Lib.hid hy2
          clear hc2 how4
          go_wp2_with (fail)
          clear hd1 hd2
          refine wp_region_held_drew (S := fun w' => (w'.cell? ⟨w.heap.size, 0, none⟩ = some (.int .i64 D.p) ∧ w'.cell? ⟨w.heap.size, 1, none⟩ = some (.int .i64 D.m) ∧ w'.cell? ⟨w.heap.size, 2, none⟩ = some (.slice A D.mod.length c)) ∧ w'.cell? ⟨b1, o1 + i, none⟩ = some (.int .i64 y1) ∧ w'.cell? ⟨b2, o2 + j, none⟩ = some (.int .i64 y2)) (by kernel_rfl) (by (try dsimp only); exact kk.out) (fun hHeld => ?_)
          refine wpAnyH_take (i := 0) (oi := ⟨_, _, _, _, _, _⟩) (v := ?_) rfl (by kernel_rfl) (by kernel_rfl) (by kernel_rfl) (fun _ _ _ h => h) (Or.inl ⟨by rfl, ?_⟩) (by assumption) ?_
          rotate_left
          · intro w hSw; (try dsimp only at hSw); go_simp; try with_reducible rfl
          try simp only [Act.put, List.setIfInBounds_toArray, List.set_cons_zero, List.set_cons_succ]
          refine wpAnyH_take (i := 1) (oi := ⟨_, _, _, _, _, _⟩) (v := ?_) rfl (by kernel_rfl) (by kernel_rfl) (by kernel_rfl) (fun _ _ _ h => h) (Or.inl ⟨by rfl, ?_⟩) (by assumption) ?_
          rotate_left
          · intro w hSw; (try dsimp only at hSw); go_simp; try with_reducible rfl
          try simp only [Act.put, List.setIfInBounds_toArray, List.set_cons_zero, List.set_cons_succ]
          refine wpAnyH_take (i := 2) (oi := ⟨_, _, _, _, _, _⟩) (v := ?_) rfl (by kernel_rfl) (by kernel_rfl) (by kernel_rfl) (fun _ _ _ h => h) (Or.inl ⟨by rfl, ?_⟩) (by assumption) ?_
          rotate_left
          · intro w hSw; (try dsimp only at hSw); go_simp; try with_reducible rfl
          try simp only [Act.put, List.setIfInBounds_toArray, List.set_cons_zero, List.set_cons_succ]
          refine wpAnyH_take (i := 3) (oi := ⟨_, _, _, _, _, _⟩) (v := ?_) rfl (by kernel_rfl) (by kernel_rfl) (by kernel_rfl) (fun _ _ _ h => h) (Or.inl ⟨by rfl, ?_⟩) (by assumption) ?_
          rotate_left
          · intro w hSw; (try dsimp only at hSw); go_simp; try with_reducible rfl
          try simp only [Act.put, List.setIfInBounds_toArray, List.set_cons_zero, List.set_cons_succ]
          refine wpAnyH_take (i := 4) (oi := ⟨_, _, _, _, _, _⟩) (v := ?_) rfl (by kernel_rfl) (by kernel_rfl) (by kernel_rfl) (fun _ _ _ h => h) (Or.inl ⟨by rfl, ?_⟩) (by assumption) ?_
          rotate_left
          · intro w hSw; (try dsimp only at hSw); go_simp; try with_reducible rfl
          try simp only [Act.put, List.setIfInBounds_toArray, List.set_cons_zero, List.set_cons_succ]
          refine wpAnyH_take (i := 5) (oi := ⟨_, _, _, _, _, _⟩) (v := ?_) rfl (by kernel_rfl) (by kernel_rfl) (by kernel_rfl) (fun _ _ _ h => h) (Or.inl ⟨by rfl, ?_⟩) (by assumption) ?_
          rotate_left
          · intro w hSw; (try dsimp only at hSw); go_simp; try with_reducible rfl
          try simp only [Act.put, List.setIfInBounds_toArray, List.set_cons_zero, List.set_cons_succ]
          refine wpAnyH_take (i := 6) (oi := ⟨_, _, _, _, _, _⟩) (v := ?_) rfl (by kernel_rfl) (by kernel_rfl) (by kernel_rfl) (fun _ _ _ h => h) (Or.inl ⟨by rfl, ?_⟩) (by assumption) ?_
          rotate_left
          · intro w hSw; (try dsimp only at hSw); go_simp; try with_reducible rfl
          try simp only [Act.put, List.setIfInBounds_toArray, List.set_cons_zero, List.set_cons_succ]
          refine wpAnyH_take (i := 7) (oi := ⟨_, _, _, _, _, _⟩) (v := ?_) rfl (by kernel_rfl) (by kernel_rfl) (by kernel_rfl) (fun _ _ _ h => h) (Or.inl ⟨by rfl, ?_⟩) (by assumption) ?_
          rotate_left
          · intro w hSw; (try dsimp only at hSw); go_simp; try with_reducible rfl
          try simp only [Act.put, List.setIfInBounds_toArray, List.set_cons_zero, List.set_cons_succ]
          refine wpAnyH_take (i := 8) (oi := ⟨_, _, _, _, _, _⟩) (v := ?_) rfl (by kernel_rfl) (by kernel_rfl) (by kernel_rfl) (fun _ _ _ h => h) (Or.inl ⟨by rfl, ?_⟩) (by assumption) ?_
          rotate_left
          · intro w hSw; (try dsimp only at hSw); go_simp; try with_reducible rfl
          try simp only [Act.put, List.setIfInBounds_toArray, List.set_cons_zero, List.set_cons_succ]
          refine wpAnyH_take (i := 9) (oi := ⟨_, _, _, _, _, _⟩) (v := ?_) rfl (by kernel_rfl) (by kernel_rfl) (by kernel_rfl) (fun _ _ _ h => h) (Or.inl ⟨by rfl, ?_⟩) (by assumption) ?_
          rotate_left
          · intro w hSw; (try dsimp only at hSw); go_simp; try with_reducible rfl
          try simp only [Act.put, List.setIfInBounds_toArray, List.set_cons_zero, List.set_cons_succ]
          refine wpAnyH_ready (rs := [10]) (by kernel_rfl) (by simp) ?_
          refine AllReadyH.cons (o := ⟨_, _, _, _, _, _⟩) rfl (fun K hK => ?_) AllReadyH.nil
          go_simp
          go_at_call 72
          (with_reducible refine (hM4).out.mono ?_)
          rintro e w5 ⟨rfl, hb5⟩
          have kk5 := Lib.hid (show (w5.cell? ⟨w.heap.size, 0, none⟩ = some (.int .i64 D.p) ∧ w5.cell? ⟨w.heap.size, 1, none⟩ = some (.int .i64 D.m) ∧ w5.cell? ⟨w.heap.size, 2, none⟩ = some (.slice A D.mod.length c)) ∧ w5.cell? ⟨b1, o1 + i, none⟩ = some (.int .i64 y1) ∧ w5.cell? ⟨b2, o2 + j, none⟩ = some (.int .i64 y2) from ⟨keep3 hb5 x1 kk.out.1, (hb5.cell (p := ⟨b1, o1 + i, none⟩) x2).trans kk.out.2.1, (hb5.cell (p := ⟨b2, o2 + j, none⟩) x3).trans kk.out.2.2⟩)
          have hb45 : Below w4.heap.size w4 w5 := (Below.refl _ w4).drew.trans hb5
          have how5 := howH.below hb45 (Nat.le_refl _)
          have hs5 : w4.heap.size ≤ w5.heap.size := hb45.size
          have hbA : Below w5.heap.size w5 (w5.alloc (.cells #[.int .i64 y3] 3)) := (Below.refl _ _).alloc (Nat.le_refl _) _
          have howA := how5.below hbA (Nat.le_refl _)
          have hrA : Rd (w5.alloc (.cells #[.int .i64 y3] 3)) (w5.heap.size + 1) (some ⟨w5.heap.size, 0, none⟩) [y3] := (IB.new w5 [y3]).rd.more (by simp)
          have kkA := Lib.hid (show ((w5.alloc (.cells #[.int .i64 y3] 3)).cell? ⟨w.heap.size, 0, none⟩ = some (.int .i64 D.p) ∧ (w5.alloc (.cells #[.int .i64 y3] 3)).cell? ⟨w.heap.size, 1, none⟩ = some (.int .i64 D.m) ∧ (w5.alloc (.cells #[.int .i64 y3] 3)).cell? ⟨w.heap.size, 2, none⟩ = some (.slice A D.mod.length c)) ∧ (w5.alloc (.cells #[.int .i64 y3] 3)).cell? ⟨b1, o1 + i, none⟩ = some (.int .i64 y1) ∧ (w5.alloc (.cells #[.int .i64 y3] 3)).cell? ⟨b2, o2 + j, none⟩ = some (.int .i64 y2) from ⟨keep3 hbA (Nat.lt_of_lt_of_le x1 hs5) kk5.out.1, (hbA.cell (p := ⟨b1, o1 + i, none⟩) (Nat.lt_of_lt_of_le x2 hs5)).trans kk5.out.2.1, (hbA.cell (p := ⟨b2, o2 + j, none⟩) (Nat.lt_of_lt_of_le x3 hs5)).trans kk5.out.2.2⟩)
          go_wp2_with (fail)
          refine hK.out _ _ (by (try dsimp only); exact kk5.out) (fun hHeld => ?_)
          clear hK K
          try simp only [Act.put, List.setIfInBounds_toArray, List.set_cons_zero, List.set_cons_succ]
          refine wpAnyH_ready (rs := [11]) (by kernel_rfl) (by simp) ?_
          refine AllReadyH.cons (o := ⟨_, _, _, _, _, _⟩) rfl (fun K hK => ?_) AllReadyH.nil
          go_simp
          refine hK.out _ _ (by (try dsimp only); exact kkA.out) (fun hHeld => ?_)
          clear hK K
          try simp only [Act.put, List.setIfInBounds_toArray, List.set_cons_zero, List.set_cons_succ]
          refine wpAnyH_ready (rs := [12]) (by kernel_rfl) (by simp) ?_
          refine AllReadyH.cons (o := ⟨_, _, _, _, _, _⟩) rfl (fun K hK => ?_) AllReadyH.nil
          refine step_appN (n2 := 1) rfl (.tmp 22) (.tmp 33) rfl Z.heap.size _ (rowL D (m2 * i + j) (outR m2 f h)) (w5.heap.size + 1) (some ⟨w5.heap.size, 0, none⟩) 1 [y3] howA hrA (by rfl) (by rfl) (by rfl) hle (Nat.le_trans hZ4 (Nat.le_trans hs5 hbA.size)) ?_
          intro v6 w6 ho6 hb6 hg6 hv6
          have kk6 := Lib.hid (show (w6.cell? ⟨w.heap.size, 0, none⟩ = some (.int .i64 D.p) ∧ w6.cell? ⟨w.heap.size, 1, none⟩ = some (.int .i64 D.m) ∧ w6.cell? ⟨w.heap.size, 2, none⟩ = some (.slice A D.mod.length c)) ∧ w6.cell? ⟨b1, o1 + i, none⟩ = some (.int .i64 y1) ∧ w6.cell? ⟨b2, o2 + j, none⟩ = some (.int .i64 y2) from ⟨keep3 hb6 hlt0 kkA.out.1, (hb6.cell (p := ⟨b1, o1 + i, none⟩) (Nat.lt_of_lt_of_le hb1 hB.size)).trans kkA.out.2.1, (hb6.cell (p := ⟨b2, o2 + j, none⟩) (Nat.lt_of_lt_of_le hb2 hB.size)).trans kkA.out.2.2⟩)
          refine hK.out _ _ (by (try dsimp only); exact kk6.out) (fun hHeld => ?_)
          clear hK K
          try simp only [Act.put, List.setIfInBounds_toArray, List.set_cons_zero, List.set_cons_succ]
          refine wpAnyH_take (i := 13) (oi := ⟨_, _, _, _, _, _⟩) (v := ?_) rfl (by kernel_rfl) (by kernel_rfl) (by kernel_rfl) (fun _ _ _ h => h) (Or.inl ⟨by rfl, ?_⟩) (by assumption) ?_
          rotate_left
          · intro w hSw; (try dsimp only at hSw); go_simp; try with_reducible rfl
          try simp only [Act.put, List.setIfInBounds_toArray, List.set_cons_zero, List.set_cons_succ]
          refine wpAnyH_done (by kernel_rfl) ?_ _
          rw [hsn.out] at ho6
          go_wp2_with (fail)
          go_roundw
          case rel => exact ⟨j + 1, by omega, by go_num, ho6, hbx.trans ((hb45.mono hbx.size).trans ((hbA.mono (Nat.le_trans hZ4 hs5)).trans hb6))⟩
          case measure => simp [intOf]; omega
        · obtain rfl : m2 = j := by omega
          go_wp2_with (fail)
          go_roundw
          case rel => exact ⟨i + 1, by omega, by go_num, by rw [Nat.mul_succ]; exact how4, hbx⟩
          case measure => simp [intOf]; omega
    · obtain rfl : m1 = i := by omega
      go_wp2_with (fail)
      go_ret
      exact ⟨_, rfl, how.lowerM hB.size, hB.trans (hbw.mono hB.size)⟩

theorem outer_vc {P M N : Int} {ml : List Int} {n : Nat} {rows : Nat → List Int} {F : FD} {m : Nat} {B : Nat → Nat → R F.toDesc} (hv : VC P M N ml n rows F m B) (A : Option Addr) (c m1 m2 : Nat) (f h : Nat → R F.toDesc) (A1 A2 : Option Addr) (c1 c2 : Nat) (w : World) (hr : Rd w w.heap.size A ml) (hr1 : Rd w w.heap.size A1 (rowL F.toDesc m1 f)) (hr2 : Rd w w.heap.size A2 (rowL F.toDesc m2 h)) (hm1 : m1 ≤ 64) (hm2 : m2 ≤ 64) :
    Calls Try.prog 61 #[.agg #[.int .i64 P, .int .i64 M, .slice A ml.length c], .slice A1 m1 c1, .slice A2 m2 c2] w (GivesA w.heap.size (rowL F.toDesc (m2 * m1) (outR m2 f h)) w) := by
  have eP := hv.hP; have eM := hv.hM; have eL := hv.hl
  clear hv
  subst eP eM eL
  rw [modL_length]
  exact Outer14_any F.toDesc m1 m2 f h A A1 A2 c c1 c2 w hr hr1 hr2 hm1 hm2

set_option maxRecDepth 100000 in
set_option maxHeartbeats 8000000 in
theorem rProduct_code (Pa Ma Na : Int) (mla : List Int) (na : Nat) (rowsa : Nat → List Int) (Aa Ra : Option Addr) (ca ka : Nat) (Pb Mb Nb : Int) (mlb : List Int) (nb : Nat) (rowsb : Nat → List Int) (Ab Rb : Option Addr) (cb kb : Nat) (w : World) (hPa : I64 Pa) (hMa : I64 Ma) (hla : mla.length ≤ maxLen) (hna : na ≤ 64) (hka : ∀ i, i < na → (rowsa i).length ≤ 4200) (hra : Rd w w.heap.size Aa mla) (hma : RdM w w.heap.size Ra na rowsa) (hPb : I64 Pb) (hMb : I64 Mb) (hlb : mlb.length ≤ maxLen) (hnb : nb ≤ 64) (hkb : ∀ i, i < nb → (rowsb i).length ≤ 4200) (hrb : Rd w w.heap.size Ab mlb) (hmb : RdM w w.heap.size Rb nb rowsb) (F : FD) (m1 m2 : Nat) (M1 M2 : Nat → Nat → R F.toDesc) (va : VC Pa Ma Na mla na rowsa F m1 M1) (vb : VC Pb Mb Nb mlb nb rowsb F m2 M2) (hE : twoE Pa Ma Na mla na rowsa Aa Ra ca ka Pb Mb Nb mlb nb rowsb Ab Rb cb kb = 0) (NN : Nat) (hNN : NN = m1 * m2) (hN64 : NN ≤ 64) {P M N : Int} {ml : List Int} {n : Nat} {rows : Nat → List Int}
    (hG : ∀ (W : World) (Al : Option Addr) (cl : Nat), Rd W W.heap.size Aa mla → RdM W W.heap.size Al (nb * na) (rowsL F.toDesc NN (prodR nb m2 M1 M2)) → Calls Try.prog 34 #[.agg #[.int .i64 Pa, .int .i64 Ma, .slice Aa mla.length ca], .slice Al (nb * na) cl, .int .i64 (NN : Int)] W (ResM P M N ml n rows W)) :
    Calls Try.prog 23 #[.agg #[.int .i64 Pa, .int .i64 Ma, .slice Aa mla.length ca, .int .i64 Na, .slice Ra na ka], .agg #[.int .i64 Pb, .int .i64 Mb, .slice Ab mlb.length cb, .int .i64 Nb, .slice Rb nb kb]] w (ResC P M N ml n rows 0 w) := by
  have hN1 := va.hN
  have hN2 := vb.hN
  subst hN1 hN2
  have hm1 := va.m64; have hm2 := vb.m64
  have hm10 := va.m1; have hm20 := vb.m1
  have hmar := va.rdm hma
  have hmbr := vb.rdm hmb
  have hw0 : ((m1 : Int) * (m2 : Int)) = (NN : Int) := by rw [hNN]; push_cast; rfl
  have hmul : IntKind.i64.wrap ((m1 : Int) * (m2 : Int)) = (NN : Int) := by rw [hw0]; exact IntWalk.i64_in _ (by omega)
  have hNb : ¬ (64 : Int) < (NN : Int) := by omega
  obtain ⟨Z, hZ⟩ : ∃ Z, Z = (((w.alloc (.cells #[.int .i64 Pa, .int .i64 Ma, .slice Aa mla.length ca, .int .i64 m1, .slice Ra na ka] 27)).alloc (.cells #[.int .i64 Pb, .int .i64 Mb, .slice Ab mlb.length cb, .int .i64 m2, .slice Rb nb kb] 27)).alloc (.cells #[.int .i64 0, .int .i64 0, .slice none 0 0, .int .i64 0, .slice none 0 0] 27)) := ⟨_, rfl⟩
  have hB : Below w.heap.size w Z := by rw [hZ]; exact (((Below.refl _ _).alloc (Nat.le_refl _) _).alloc (by simp) _).alloc (by simp; omega) _
  obtain ⟨s, hs⟩ : ∃ s, s = w.heap.size := ⟨_, rfl⟩
  obtain ⟨hZe, fa, fb, fz⟩ := two_enter Pa Ma m1 mla na rowsa Aa Ra ca ka Pb Mb m2 mlb nb rowsb Ab Rb cb kb w hZ hs
  have hZs : s + 1 + 1 < Z.heap.size := by omega
  have hC1 := Two14_any Pa Ma m1 mla na rowsa Aa Ra ca ka Pb Mb m2 mlb nb rowsb Ab Rb cb kb Z hPa hMa hla hna hka ((hra.below hB).more hB.size) ((hma.below hB).more hB.size) hPb hMb hlb hnb hkb ((hrb.below hB).more hB.size) ((hmb.below hB).more hB.size)
  rw [hE] at hC1
  have hOu := fun f h A1 A2 c1 c2 W g1 g2 g3 => outer_vc va Aa ca m1 m2 f h A1 A2 c1 c2 W g1 g2 g3 hm1 hm2
  replace hC1 := Lib.hid hC1
  replace hZe := Lib.hid hZe
  replace hE := Lib.hid hE
  replace hZ := Lib.hid hZ
  replace fa := Lib.hid fa
  replace fb := Lib.hid fb
  replace hNN := Lib.hid hNN
  replace hw0 := Lib.hid hw0
  clear hka hkb va vb hma hmb
  unfold ResC
  unfold ResM at hG
  go_enter Try.func23, Try.ntmps23
  go_wp2_with (fail)
  rw [← hZ.out]
  simp only [← hs]
  have hsw : w.heap.size ≤ s := Nat.le_of_eq hs.symm
  replace hs := Lib.hid hs
  (with_reducible refine hC1.out.mono ?_)
  rintro e w1 ⟨rfl, hbz⟩
  obtain ⟨a0, a1, a2, a3, a4, -⟩ := fa.out.keep hbz (by omega)
  obtain ⟨c0, c1, c2, c3, c4, -⟩ := fb.out.keep hbz (by omega)
  clear hC1
  go_wp2_with (fail)
  clear a0 a1 a2 a3 a4 c0 c1 c2 c3 c4
  go_loopw [8, 7, 9] (fun iS vS _ wr => ∃ k : Nat, k ≤ na ∧ iS = .int .i64 k ∧ OwnM wr Z.heap.size vS (nb * k) (rowsL F.toDesc NN (prodR nb m2 M1 M2)) ∧ Below Z.heap.size Z wr) (fun iS _ _ _ => na - (intOf iS).toNat)
  case atStart => exact ⟨0, by omega, rfl, by rw [Nat.mul_zero]; exact OwnM.nil _ _ _, hbz⟩
  case round =>
    obtain ⟨k, hk, rfl, hown, hbw⟩ := hrel
    obtain ⟨w3, rfl⟩ : ∃ w3 : World, w3 = wr := ⟨_, rfl⟩
    have hB3 := hB.trans (hbw.mono hB.size)
    obtain ⟨a0, a1, a2, a3, a4, -⟩ := fa.out.keep hbw (by omega)
    obtain ⟨c0, c1, c2, c3, c4, -⟩ := fb.out.keep hbw (by omega)
    by_cases hlt : k < na
    · have hk0 : (0 : Int) ≤ (k : Int) := by omega
      have hk1 : (k : Int) < (na : Int) := by omega
      obtain ⟨ba, oa, Ka, la, rfl, hha, hca, hrka, hlka, hcka⟩ := hmar.at_ (show k < na by omega)
      rw [rowsL_length] at hca hlka
      obtain ⟨Av, cv, rfl⟩ := hown.size
      go_wp2_with (fail)
      clear a0 a1 a2 a3 a4 c0 c1 c2 c3 c4
      go_loopw [9, 7] (fun iS vS wr => ∃ j : Nat, j ≤ nb ∧ iS = .int .i64 j ∧ OwnM wr Z.heap.size vS (nb * k + j) (rowsL F.toDesc NN (prodR nb m2 M1 M2)) ∧ Below Z.heap.size Z wr) (fun iS _ _ => nb - (intOf iS).toNat)
      case atStart => exact ⟨0, by omega, rfl, by rw [Nat.add_zero]; exact hown, hbw⟩
      case round =>
        obtain ⟨j, hj, rfl, hown4, hbx⟩ := hrel
        obtain ⟨w4, rfl⟩ : ∃ w4 : World, w4 = wr := ⟨_, rfl⟩
        have hB4 := hB.trans (hbx.mono hB.size)
        have fa4 := fa.out.keep hbx (by omega)
        have fb4 := fb.out.keep hbx (by omega)
        obtain ⟨a0, a1, a2, a3, a4, -⟩ := fa4
        obtain ⟨c0, c1, c2, c3, c4, -⟩ := fb4
        by_cases hjd : j < nb
        · have hj0 : (0 : Int) ≤ (j : Int) := by omega
          have hj1 : (j : Int) < (nb : Int) := by omega
          have hZ4 : Z.heap.size ≤ w4.heap.size := hbx.size
          obtain ⟨bb, ob, Kb, lb, rfl, hhb, hcb, hrkb, hlkb, hckb⟩ := hmbr.at_ (show j < nb by omega)
          rw [rowsL_length] at hcb hlkb
          have hda := (hB4.cell (p := ⟨ba, oa + k, none⟩) hha).trans hca
          have hdb := (hB4.cell (p := ⟨bb, ob + j, none⟩) hhb).trans hcb
          have kk := Lib.hid (show (w4.cell? ⟨s, 0, none⟩ = some (.int .i64 Pa) ∧ w4.cell? ⟨s, 1, none⟩ = some (.int .i64 Ma) ∧ w4.cell? ⟨s, 2, none⟩ = some (.slice Aa mla.length ca)) ∧ w4.cell? ⟨s, 4, none⟩ = some (.slice (some ⟨ba, oa, none⟩) na ka) ∧ w4.cell? ⟨ba, oa + k, none⟩ = some (.slice Ka m1 la) ∧ w4.cell? ⟨s + 1, 4, none⟩ = some (.slice (some ⟨bb, ob, none⟩) nb kb) ∧ w4.cell? ⟨bb, ob + j, none⟩ = some (.slice Kb m2 lb) from ⟨⟨a0, a1, a2⟩, a4, hda, c4, hdb⟩)
          have hs3 : s + 1 < w4.heap.size := by omega
          have hs2 : s < w4.heap.size := by omega
          have x2 : ba < w4.heap.size := Nat.lt_of_lt_of_le hha hB4.size
          have x3 : bb < w4.heap.size := Nat.lt_of_lt_of_le hhb hB4.size
          have kp : ∀ {B : Nat} {W W' : World}, Below B W W' → s < B → s + 1 < B → ba < B → bb < B → Hid ((W.cell? ⟨s, 0, none⟩ = some (.int .i64 Pa) ∧ W.cell? ⟨s, 1, none⟩ = some (.int .i64 Ma) ∧ W.cell? ⟨s, 2, none⟩ = some (.slice Aa mla.length ca)) ∧ W.cell? ⟨s, 4, none⟩ = some (.slice (some ⟨ba, oa, none⟩) na ka) ∧ W.cell? ⟨ba, oa + k, none⟩ = some (.slice Ka m1 la) ∧ W.cell? ⟨s + 1, 4, none⟩ = some (.slice (some ⟨bb, ob, none⟩) nb kb) ∧ W.cell? ⟨bb, ob + j, none⟩ = some (.slice Kb m2 lb)) → Hid ((W'.cell? ⟨s, 0, none⟩ = some (.int .i64 Pa) ∧ W'.cell? ⟨s, 1, none⟩ = some (.int .i64 Ma) ∧ W'.cell? ⟨s, 2, none⟩ = some (.slice Aa mla.length ca)) ∧ W'.cell? ⟨s, 4, none⟩ = some (.slice (some ⟨ba, oa, none⟩) na ka) ∧ W'.cell? ⟨ba, oa + k, none⟩ = some (.slice Ka m1 la) ∧ W'.cell? ⟨s + 1, 4, none⟩ = some (.slice (some ⟨bb, ob, none⟩) nb kb) ∧ W'.cell? ⟨bb, ob + j, none⟩ = some (.slice Kb m2 lb)) := fun {B W W'} hb _ _ _ _ h => ⟨keep3 hb (by assumption) h.out.1, (hb.cell (p := ⟨s, 4, none⟩) (by assumption)).trans h.out.2.1, (hb.cell (p := ⟨ba, oa + k, none⟩) (by assumption)).trans h.out.2.2.1, (hb.cell (p := ⟨s + 1, 4, none⟩) (by assumption)).trans h.out.2.2.2.1, (hb.cell (p := ⟨bb, ob + j, none⟩) (by assumption)).trans h.out.2.2.2.2⟩
          replace kp := fun {B : Nat} {W W' : World} a u0 u1 u2 u3 b => Lib.hid (@kp B W W' a u0 u1 u2 u3 b)
          have hbe : Below w4.heap.size w4 w4.drew := (Below.refl w4.heap.size w4).drew
          have hO4 := hOu (M1 k) (M2 j) Ka Kb la lb w4.drew ((hra.below hB4).more hB4.size).drew ((hrka.below hB4).more hB4.size).drew ((hrkb.below hB4).more hB4.size).drew
          have hrow : rowL F.toDesc (m2 * m1) (outR m2 (M1 k) (M2 j)) = (rowsL F.toDesc NN (prodR nb m2 M1 M2)) (nb * k + j) := by
            rw [Nat.mul_comm m2 m1, ← hNN.out]
            unfold rowsL outR prodR
            rw [(divmod_mul hjd).1, (divmod_mul hjd).2]
          rw [hrow] at hO4
          unfold GivesA at hO4
          replace hO4 := Lib.hid hO4
          replace hrow := Lib.hid hrow
          have hownH := hown4
          obtain ⟨Av4, cv4, rfl⟩ := hown4.size
          have hdk : nb * k ≤ 64 * 64 := Nat.mul_le_mul (by omega) (by omega)
          clear hcb
          go_wp2_with (fail)
          clear a0 a1 a2 a3 a4 c0 c1 c2 c3 c4 hda hdb
          refine wp_region_held_drew (S := fun w' => (w'.cell? ⟨s, 0, none⟩ = some (.int .i64 Pa) ∧ w'.cell? ⟨s, 1, none⟩ = some (.int .i64 Ma) ∧ w'.cell? ⟨s, 2, none⟩ = some (.slice Aa mla.length ca)) ∧ w'.cell? ⟨s, 4, none⟩ = some (.slice (some ⟨ba, oa, none⟩) na ka) ∧ w'.cell? ⟨ba, oa + k, none⟩ = some (.slice Ka m1 la) ∧ w'.cell? ⟨s + 1, 4, none⟩ = some (.slice (some ⟨bb, ob, none⟩) nb kb) ∧ w'.cell? ⟨bb, ob + j, none⟩ = some (.slice Kb m2 lb)) (by kernel_rfl) (by (try dsimp only); exact kk.out) (fun hHeld => ?_)
          refine wpAnyH_take (i := 0) (oi := ⟨_, _, _, _, _, _⟩) (v := ?_) rfl (by kernel_rfl) (by kernel_rfl) (by kernel_rfl) (fun _ _ _ h => h) (Or.inl ⟨by rfl, ?_⟩) (by assumption) ?_
          rotate_left
          · intro w hSw; (try dsimp only at hSw); go_simp; try with_reducible rfl
          try simp only [Act.put, List.setIfInBounds_toArray, List.set_cons_zero, List.set_cons_succ]
          refine wpAnyH_take (i := 1) (oi := ⟨_, _, _, _, _, _⟩) (v := ?_) rfl (by kernel_rfl) (by kernel_rfl) (by kernel_rfl) (fun _ _ _ h => h) (Or.inl ⟨by rfl, ?_⟩) (by assumption) ?_
          rotate_left
          · intro w hSw; (try dsimp only at hSw); go_simp; try with_reducible rfl
          try simp only [Act.put, List.setIfInBounds_toArray, List.set_cons_zero, List.set_cons_succ]
          refine wpAnyH_take (i := 2) (oi := ⟨_, _, _, _, _, _⟩) (v := ?_) rfl (by kernel_rfl) (by kernel_rfl) (by kernel_rfl) (fun _ _ _ h => h) (Or.inl ⟨by rfl, ?_⟩) (by assumption) ?_
          rotate_left
          · intro w hSw; (try dsimp only at hSw); go_simp; try with_reducible rfl
          try simp only [Act.put, List.setIfInBounds_toArray, List.set_cons_zero, List.set_cons_succ]
          refine wpAnyH_take (i := 3) (oi := ⟨_, _, _, _, _, _⟩) (v := ?_) rfl (by kernel_rfl) (by kernel_rfl) (by kernel_rfl) (fun _ _ _ h => h) (Or.inl ⟨by rfl, ?_⟩) (by assumption) ?_
          rotate_left
          · intro w hSw; (try dsimp only at hSw); go_simp; try with_reducible rfl
          try simp only [Act.put, List.setIfInBounds_toArray, List.set_cons_zero, List.set_cons_succ]
          refine wpAnyH_take (i := 4) (oi := ⟨_, _, _, _, _, _⟩) (v := ?_) rfl (by kernel_rfl) (by kernel_rfl) (by kernel_rfl) (fun _ _ _ h => h) (Or.inl ⟨by rfl, ?_⟩) (by assumption) ?_
          rotate_left
          · intro w hSw; (try dsimp only at hSw); go_simp; try with_reducible rfl
          try simp only [Act.put, List.setIfInBounds_toArray, List.set_cons_zero, List.set_cons_succ]
          refine wpAnyH_take (i := 5) (oi := ⟨_, _, _, _, _, _⟩) (v := ?_) rfl (by kernel_rfl) (by kernel_rfl) (by kernel_rfl) (fun _ _ _ h => h) (Or.inl ⟨by rfl, ?_⟩) (by assumption) ?_
          rotate_left
          · intro w hSw; (try dsimp only at hSw); go_simp; try with_reducible rfl
          try simp only [Act.put, List.setIfInBounds_toArray, List.set_cons_zero, List.set_cons_succ]
          refine wpAnyH_take (i := 6) (oi := ⟨_, _, _, _, _, _⟩) (v := ?_) rfl (by kernel_rfl) (by kernel_rfl) (by kernel_rfl) (fun _ _ _ h => h) (Or.inl ⟨by rfl, ?_⟩) (by assumption) ?_
          rotate_left
          · intro w hSw; (try dsimp only at hSw); go_simp; try with_reducible rfl
          try simp only [Act.put, List.setIfInBounds_toArray, List.set_cons_zero, List.set_cons_succ]
          refine wpAnyH_take (i := 7) (oi := ⟨_, _, _, _, _, _⟩) (v := ?_) rfl (by kernel_rfl) (by kernel_rfl) (by kernel_rfl) (fun _ _ _ h => h) (Or.inl ⟨by rfl, ?_⟩) (by assumption) ?_
          rotate_left
          · intro w hSw; (try dsimp only at hSw); go_simp; try with_reducible rfl
          try simp only [Act.put, List.setIfInBounds_toArray, List.set_cons_zero, List.set_cons_succ]
          refine wpAnyH_take (i := 8) (oi := ⟨_, _, _, _, _, _⟩) (v := ?_) rfl (by kernel_rfl) (by kernel_rfl) (by kernel_rfl) (fun _ _ _ h => h) (Or.inl ⟨by rfl, ?_⟩) (by assumption) ?_
          rotate_left
          · intro w hSw; (try dsimp only at hSw); go_simp; try with_reducible rfl
          try simp only [Act.put, List.setIfInBounds_toArray, List.set_cons_zero, List.set_cons_succ]
          refine wpAnyH_take (i := 9) (oi := ⟨_, _, _, _, _, _⟩) (v := ?_) rfl (by kernel_rfl) (by kernel_rfl) (by kernel_rfl) (fun _ _ _ h => h) (Or.inl ⟨by rfl, ?_⟩) (by assumption) ?_
          rotate_left
          · intro w hSw; (try dsimp only at hSw); go_simp; try with_reducible rfl
          try simp only [Act.put, List.setIfInBounds_toArray, List.set_cons_zero, List.set_cons_succ]
          refine wpAnyH_take (i := 10) (oi := ⟨_, _, _, _, _, _⟩) (v := ?_) rfl (by kernel_rfl) (by kernel_rfl) (by kernel_rfl) (fun _ _ _ h => h) (Or.inl ⟨by rfl, ?_⟩) (by assumption) ?_
          rotate_left
          · intro w hSw; (try dsimp only at hSw); go_simp; try with_reducible rfl
          try simp only [Act.put, List.setIfInBounds_toArray, List.set_cons_zero, List.set_cons_succ]
          refine wpAnyH_take (i := 11) (oi := ⟨_, _, _, _, _, _⟩) (v := ?_) rfl (by kernel_rfl) (by kernel_rfl) (by kernel_rfl) (fun _ _ _ h => h) (Or.inl ⟨by rfl, ?_⟩) (by assumption) ?_
          rotate_left
          · intro w hSw; (try dsimp only at hSw); go_simp; try with_reducible rfl
          try simp only [Act.put, List.setIfInBounds_toArray, List.set_cons_zero, List.set_cons_succ]
          refine wpAnyH_take (i := 12) (oi := ⟨_, _, _, _, _, _⟩) (v := ?_) rfl (by kernel_rfl) (by kernel_rfl) (by kernel_rfl) (fun _ _ _ h => h) (Or.inl ⟨by rfl, ?_⟩) (by assumption) ?_
          rotate_left
          · intro w hSw; (try dsimp only at hSw); go_simp; try with_reducible rfl
          try simp only [Act.put, List.setIfInBounds_toArray, List.set_cons_zero, List.set_cons_succ]
          refine wpAnyH_ready (rs := [13]) (by kernel_rfl) (by simp) ?_
          refine AllReadyH.cons (o := ⟨_, _, _, _, _, _⟩) rfl (fun K hK => ?_) AllReadyH.nil
          go_simp
          go_at_call 61
          (with_reducible refine (hO4).out.mono ?_)
          rintro e w5 ⟨v5, rfl, ho5, hb5⟩
          obtain ⟨A4, c4, rfl, hl4, hc4, hr4, hA4⟩ := ho5.parts
          rw [rowsL_length] at hl4
          have hb45 := hbe.trans hb5
          have kk5 := (kp hb45 hs2 hs3 x2 x3 kk).out
          have hown5 := hownH.below hb45 (Nat.le_refl _)
          have hs5 := hb45.size
          have hbA : Below w5.heap.size w5 (w5.alloc (.cells #[.slice A4 NN c4] 22)) := (Below.refl _ _).alloc (Nat.le_refl _) _
          have kkA := (kp hbA (Nat.lt_of_lt_of_le hs2 hs5) (Nat.lt_of_lt_of_le hs3 hs5) (Nat.lt_of_lt_of_le x2 hs5) (Nat.lt_of_lt_of_le x3 hs5) kk5).out
          rw [rowsL_length]
          go_wp2_with (fail)
          refine hK.out _ _ (by (try dsimp only); exact kk5.out) (fun hHeld => ?_)
          clear hK K
          try simp only [Act.put, List.setIfInBounds_toArray, List.set_cons_zero, List.set_cons_succ]
          refine wpAnyH_ready (rs := [14]) (by kernel_rfl) (by simp) ?_
          refine AllReadyH.cons (o := ⟨_, _, _, _, _, _⟩) rfl (fun K hK => ?_) AllReadyH.nil
          go_simp
          refine hK.out _ _ (by (try dsimp only); exact kkA.out) (fun hHeld => ?_)
          clear hK K
          try simp only [Act.put, List.setIfInBounds_toArray, List.set_cons_zero, List.set_cons_succ]
          refine wpAnyH_ready (rs := [15]) (by kernel_rfl) (by simp) ?_
          refine AllReadyH.cons (o := ⟨_, _, _, _, _, _⟩) rfl (fun K hK => ?_) AllReadyH.nil
          refine step_appRow rfl (.tmp 38) (.tmp 52) rfl Z.heap.size _ (nb * k + j) _ hown5 A4 NN c4 hr4 (rowsL_length _ _ _ _) hl4 hc4 w4.heap.size hownH.lt0 hA4 hZ4 (by rfl) (by rfl) rfl (by omega) (Nat.le_trans hZ4 hs5) ?_
          intro v6 w6 ho6 hb6
          have kk6 := (kp hb6 (by omega) (by omega) (Nat.lt_of_lt_of_le hha hB.size) (Nat.lt_of_lt_of_le hhb hB.size) kk5).out
          refine hK.out _ _ (by (try dsimp only); exact kk6.out) (fun hHeld => ?_)
          clear hK K
          try simp only [Act.put, List.setIfInBounds_toArray, List.set_cons_zero, List.set_cons_succ]
          refine wpAnyH_take (i := 16) (oi := ⟨_, _, _, _, _, _⟩) (v := ?_) rfl (by kernel_rfl) (by kernel_rfl) (by kernel_rfl) (fun _ _ _ h => h) (Or.inl ⟨by rfl, ?_⟩) (by assumption) ?_
          rotate_left
          · intro w hSw; (try dsimp only at hSw); go_simp; try with_reducible rfl
          try simp only [Act.put, List.setIfInBounds_toArray, List.set_cons_zero, List.set_cons_succ]
          refine wpAnyH_done (by kernel_rfl) ?_ _
          go_wp2_with (fail)
          go_roundw
          case rel => exact ⟨j + 1, by omega, by go_num, ho6, hbx.trans ((hb45.mono hbx.size).trans (hb6.mono (Nat.le_refl _)))⟩
          case measure => simp [intOf]; omega
        · obtain rfl : nb = j := by omega
          go_wp2_with (fail)
          go_roundw
          case rel => exact ⟨k + 1, by omega, by go_num, by rw [Nat.mul_succ]; exact hown4, hbx⟩
          case measure => simp [intOf]; omega
    · obtain rfl : na = k := by omega
      clear a0 a1 a2 a3 a4 c0 c1 c2 c3 c4
      obtain ⟨a0, a1, a2, a3, a4, -⟩ := fa.out.keep hbw (by omega)
      obtain ⟨c0, c1, c2, c3, c4, -⟩ := fb.out.keep hbw (by omega)
      obtain ⟨A9, c9, rfl, hr9⟩ := hown.rdm
      have hG9 := Lib.hid (hG w3 A9 c9 ((hra.below hB3).more hB3.size) hr9)
      have hs9 : s + 1 + 1 < w3.heap.size := Nat.lt_of_lt_of_le hZs hbw.size
      have fz9 := fz.keep hbw hZs
      have hB9 := hB3
      clear hG fz hown hr9
      go_wp2_with (fail)
      (with_reducible refine hG9.out.mono ?_)
      rintro e w6 ⟨A6, c6, Al, cl, rfl, hr6, hA6, hru, hb6⟩
      obtain ⟨t0, t1, t2, t3, t4, g0, g1, g2, g3, g4⟩ := fz9.keep hb6 hs9
      have hrf := Lib.hid (hr6.set5 (b := s + 1 + 1) (fun b hb => by have := hA6 b hb; omega) (.int .i64 P) (.int .i64 M) (.slice A6 ml.length c6) (.int .i64 N) (.slice Al n cl))
      have hruf : Hid (RdMU (((((w6.setCell ⟨s + 1 + 1, 0, none⟩ (.int .i64 P)).setCell ⟨s + 1 + 1, 1, none⟩ (.int .i64 M)).setCell ⟨s + 1 + 1, 2, none⟩ (.slice A6 ml.length c6)).setCell ⟨s + 1 + 1, 3, none⟩ (.int .i64 N)).setCell ⟨s + 1 + 1, 4, none⟩ (.slice Al n cl)) w3.heap.size w6.heap.size Al n rows) := hru.keepU fun p hp _ => set5_above (b := s + 1 + 1) (L := w3.heap.size) hs9 _ _ _ _ _ p hp
      have hBf : Hid (Below w.heap.size w (((((w6.setCell ⟨s + 1 + 1, 0, none⟩ (.int .i64 P)).setCell ⟨s + 1 + 1, 1, none⟩ (.int .i64 M)).setCell ⟨s + 1 + 1, 2, none⟩ (.slice A6 ml.length c6)).setCell ⟨s + 1 + 1, 3, none⟩ (.int .i64 N)).setCell ⟨s + 1 + 1, 4, none⟩ (.slice Al n cl))) := (hB9.trans (hb6.mono hB9.size)).trans ((set5 _ _ _ _ _).mono (by omega))
      have hsz : Hid ((((((w6.setCell ⟨s + 1 + 1, 0, none⟩ (.int .i64 P)).setCell ⟨s + 1 + 1, 1, none⟩ (.int .i64 M)).setCell ⟨s + 1 + 1, 2, none⟩ (.slice A6 ml.length c6)).setCell ⟨s + 1 + 1, 3, none⟩ (.int .i64 N)).setCell ⟨s + 1 + 1, 4, none⟩ (.slice Al n cl)).heap.size = w6.heap.size) := by unfold Hid; simp [World.setCell]
      have hW9 : w.heap.size ≤ w3.heap.size := hB9.size
      have hA9 : ∀ b, A6 = some b → w.heap.size ≤ b.block := fun b hb => Nat.le_trans hW9 (hA6 b hb)
      clear hr6 hA6 hru hb6 hB9 hG9 hB3
      go_wp2_with (fail)
      refine bodyPost_ret (v := .tuple #[.agg #[.int .i64 P, .int .i64 M, .slice A6 ml.length c6, .int .i64 N, .slice Al n cl], .int .i64 0]) (by simp [results, Try.results23, go_sem, t0, t1, t2, t3, t4]) rfl ⟨A6, c6, Al, cl, rfl, hrf.out.more (by rw [hsz.out]; exact Nat.le_refl _), hA9, ?_, hBf.out⟩
      have h5 := hruf.out.low hW9
      rw [← hsz.out] at h5
      exact h5

theorem Product_both (Pa Ma Na : Int) (mla : List Int) (na : Nat) (rowsa : Nat → List Int) (Aa Ra : Option Addr) (ca ka : Nat) (Pb Mb Nb : Int) (mlb : List Int) (nb : Nat) (rowsb : Nat → List Int) (Ab Rb : Option Addr) (cb kb : Nat) (hPa : I64 Pa) (hMa : I64 Ma) (hla : mla.length ≤ maxLen) (hna : na ≤ 64) (hka : ∀ i, i < na → (rowsa i).length ≤ 4200) (hPb : I64 Pb) (hMb : I64 Mb) (hlb : mlb.length ≤ maxLen) (hnb : nb ≤ 64) (hkb : ∀ i, i < nb → (rowsb i).length ≤ 4200) : BothC 22 23 #[.agg #[.int .i64 Pa, .int .i64 Ma, .slice Aa mla.length ca, .int .i64 Na, .slice Ra na ka], .agg #[.int .i64 Pb, .int .i64 Mb, .slice Ab mlb.length cb, .int .i64 Nb, .slice Rb nb kb]] (Pre2 mla na rowsa Aa Ra mlb nb rowsb Ab Rb) := by
  by_cases hE : twoE Pa Ma Na mla na rowsa Aa Ra ca ka Pb Mb Nb mlb nb rowsb Ab Rb cb kb = 0
  · obtain ⟨F, m1, m2, M1, M2, va, vb⟩ := twoE_zero hE
    have hgood := va.good
    have h1 := va.m1; have h2 := va.m64; have h3 := vb.m1; have h4 := vb.m64; have h5 := va.le; have h6 := vb.le
    have eNa := va.hN; have eNb := vb.hN
    have eP := va.hP; have eM := va.hM; have eL := va.hl
    by_cases hl : m1 * m2 ≤ 64
    · have hnn : nb * na ≤ m1 * m2 := by rw [Nat.mul_comm nb na]; exact Nat.mul_le_mul h5 h6
      refine both_code F (nb * na) (m1 * m2) (prodR nb m2 M1 M2) (by omega) (by omega) (fun W h => ?_) (fun W h => ?_)
      · refine cProduct_code Pa Ma Na mla na rowsa Aa Ra ca ka Pb Mb Nb mlb nb rowsb Ab Rb cb kb W hPa hMa hla hna hka h.1.1 h.1.2 hPb hMb hlb hnb hkb h.2.1 h.2.2 F m1 m2 M1 M2 va vb hE (m1 * m2) rfl hl fun W2 Al cl g1 g2 => ?_
        subst eP eM eL
        exact gen_codeN F hgood _ (m1 * m2) _ Aa Al ca cl W2 g1 g2 (by omega) (Nat.mul_pos h1 h3) hl
      · refine rProduct_code Pa Ma Na mla na rowsa Aa Ra ca ka Pb Mb Nb mlb nb rowsb Ab Rb cb kb W hPa hMa hla hna hka h.1.1 h.1.2 hPb hMb hlb hnb hkb h.2.1 h.2.2 F m1 m2 M1 M2 va vb hE (m1 * m2) rfl hl fun W2 Al cl g1 g2 => ?_
        subst eP eM eL
        exact make_code F _ (m1 * m2) _ rfl _ Aa Al ca cl W2 g1 g2 (by omega) (by omega)
    · have hbig : 64 < Na * Nb := by
        rw [eNa, eNb]
        have : ((m1 * m2 : Nat) : Int) = (m1 : Int) * (m2 : Int) := by push_cast; rfl
        omega
      exact both_err 4 (fun W h => cProduct_len Pa Ma Na mla na rowsa Aa Ra ca ka Pb Mb Nb mlb nb rowsb Ab Rb cb kb W hPa hMa hla hna hka h.1.1 h.1.2 hPb hMb hlb hnb hkb h.2.1 h.2.2 hE ⟨by omega, by omega⟩ ⟨by omega, by omega⟩ hbig) (fun W h => rProduct_len Pa Ma Na mla na rowsa Aa Ra ca ka Pb Mb Nb mlb nb rowsb Ab Rb cb kb W hPa hMa hla hna hka h.1.1 h.1.2 hPb hMb hlb hnb hkb h.2.1 h.2.2 hE ⟨by omega, by omega⟩ ⟨by omega, by omega⟩ hbig)
  · exact both_err _ (fun W h => cProduct_err Pa Ma Na mla na rowsa Aa Ra ca ka Pb Mb Nb mlb nb rowsb Ab Rb cb kb W hPa hMa hla hna hka h.1.1 h.1.2 hPb hMb hlb hnb hkb h.2.1 h.2.2 hE) (fun W h => rProduct_err Pa Ma Na mla na rowsa Aa Ra ca ka Pb Mb Nb mlb nb rowsb Ab Rb cb kb W hPa hMa hla hna hka h.1.1 h.1.2 hPb hMb hlb hnb hkb h.2.1 h.2.2 hE)
end Go.Proofs.Ytghgbjgoedlnjaa
