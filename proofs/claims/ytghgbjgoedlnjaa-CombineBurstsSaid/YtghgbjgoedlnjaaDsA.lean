/- The number of words: ref03.Exp, ref12.Size, Count. -/
import Derived.Test.YtghgbjgoedlnjaaCodE
import Derived.IntWalk
namespace Go.Proofs.Ytghgbjgoedlnjaa
open Go.RowKit Cw
attribute [local go_sem] Oper.semAt_some

/-- A power, if it is at most 65536; and the error. -/
def exV (q k : Nat) : Int := if q ^ k ≤ 65536 then (q ^ k : Nat) else 0
def exE (q k : Nat) : Int := if q ^ k ≤ 65536 then 0 else 8
theorem exp_no {q k i : Nat} (hq : 2 ≤ q) (hi : i < k) (h : 65536 / q < q ^ i) : ¬ q ^ k ≤ 65536 := fun hc => by
  have h1 : q ^ (i + 1) ≤ q ^ k := Nat.pow_le_pow_right (by omega) hi
  have h2 : 65536 < q ^ i * q := (Nat.div_lt_iff_lt_mul (by omega)).1 h
  rw [Nat.pow_succ] at h1
  omega
set_option maxHeartbeats 1000000 in
theorem Exp3_any (q k : Nat) (w : World) (hq : 2 ≤ q) (hq2 : q ≤ 256) (hk : k ≤ 1000) :
    Calls Try.prog 114 #[.int .i64 q, .int .i64 k, .int .i64 65536] w fun e w' => e = .returned (.tuple #[.int .i64 (exV q k), .int .i64 (exE q k)]) ∧ w' = w := by
  have b1 : ¬ (q : Int) < 0 := by omega
  have b2 : ¬ (k : Int) < 0 := by omega
  have b3 : ((q : Int) == 0) = false := by rw [beq_eq_false_iff_ne]; omega
  have b4 : (1 : Int) < (q : Int) := by omega
  have b5 : ¬ (q : Int) = 0 := by omega
  obtain ⟨V, hV⟩ : ∃ V, V = exV q k := ⟨_, rfl⟩
  obtain ⟨E, hE⟩ : ∃ E, E = exE q k := ⟨_, rfl⟩
  rw [← hV, ← hE]
  replace hV := Lib.hid hV
  replace hE := Lib.hid hE
  go_enter Try.func114, Try.ntmps114
  go_wp2_with (fail)
  go_loop [9, 8] (fun iS oS => ∃ i p : Nat, i ≤ k ∧ iS = .int .i64 i ∧ oS = .int .i64 p ∧ p ≤ 65536 ∧ Hid (p = q ^ i)) (fun iS _ => k - (intOf iS).toNat)
  case atStart => exact ⟨0, 1, by omega, rfl, rfl, by omega, by unfold Hid; rw [Nat.pow_zero]⟩
  case round =>
    obtain ⟨i, p, hi, rfl, rfl, hp, hpe⟩ := hrel
    by_cases hlt : i < k
    · by_cases hbig : 65536 / q < p
      · have hb2 : (65536 : Int) / (q : Int) < (p : Int) := by
          rw [show (65536 : Int) / (q : Int) = ((65536 / q : Nat) : Int) from (Int.natCast_ediv 65536 q).symm]; omega
        have hno := exp_no hq hlt (by rw [← hpe.out]; exact hbig)
        have hV0 : Hid (V = 0) := by unfold Hid; rw [hV.out]; exact if_neg hno
        have hE0 : Hid (E = 8) := by unfold Hid; rw [hE.out]; exact if_neg hno
        clear hno hbig
        go_wp2_with (fail)
        go_ret2
        exact ⟨by rw [hV0.out, hE0.out]; rfl, rfl⟩
      · have hb2 : ¬ (65536 : Int) / (q : Int) < (p : Int) := by
          rw [show (65536 : Int) / (q : Int) = ((65536 / q : Nat) : Int) from (Int.natCast_ediv 65536 q).symm]; omega
        have hpq : p * q ≤ 65536 := (Nat.le_div_iff_mul_le (by omega)).1 (by omega)
        obtain ⟨r, hr⟩ : ∃ r, r = p * q := ⟨_, rfl⟩
        have hw : IntKind.i64.wrap ((p : Int) * (q : Int)) = (r : Int) := by
          rw [show ((p : Int) * (q : Int)) = (r : Int) from by rw [hr]; push_cast; rfl]
          exact IntWalk.i64_in _ (by omega)
        have hr2 : Hid (r = q ^ (i + 1)) := by unfold Hid; rw [hr, hpe.out, Nat.pow_succ]
        have hr3 : r ≤ 65536 := by omega
        clear hbig hpq hr
        go_wp2_with (fail)
        go_round
        case rel => exact ⟨i + 1, r, by omega, by go_num, rfl, hr3, hr2⟩
        case measure => simp [intOf]; omega
    · obtain rfl : k = i := by omega
      have hV0 : Hid (V = (p : Int)) := by unfold Hid; rw [hV.out, exV, if_pos (by rw [← hpe.out]; exact hp), hpe.out]
      have hE0 : Hid (E = 0) := by unfold Hid; rw [hE.out, exE, if_pos (by rw [← hpe.out]; exact hp)]
      have hp2 : ¬ (65536 : Int) < (p : Int) := by omega
      go_wp2_with (fail)
      go_ret2
      exact ⟨by rw [hV0.out, hE0.out]; rfl, rfl⟩

/-- The number of words, and the error. -/
noncomputable def szV (E : Int) (q n : Nat) : Int := if E = 0 then exV q n else 0
noncomputable def szE (E : Int) (q n : Nat) : Int := if E = 0 then exE q n else E
set_option maxHeartbeats 2000000 in
theorem Size12_any (Pa Ma Na : Int) (mla : List Int) (na : Nat) (rowsa : Nat → List Int) (Aa Ra : Option Addr) (ca ka : Nat) (w : World) (hPa : I64 Pa) (hMa : I64 Ma) (hla : mla.length ≤ maxLen) (hna : na ≤ 64) (hka : ∀ i, i < na → (rowsa i).length ≤ 4200) (hra : Rd w w.heap.size Aa mla) (hma : RdM w w.heap.size Ra na rowsa) :
    Calls Try.prog 75 #[.agg #[.int .i64 Pa, .int .i64 Ma, .slice Aa mla.length ca, .int .i64 Na, .slice Ra na ka]] w fun e w' => e = .returned (.tuple #[.int .i64 (szV (cErr Pa Ma Na mla na rowsa) (qOf Pa Ma) na), .int .i64 (szE (cErr Pa Ma Na mla na rowsa) (qOf Pa Ma) na)]) ∧ Below w.heap.size w w' := by
  obtain ⟨Z, hZ⟩ : ∃ Z, Z = w.alloc (.cells #[.int .i64 Pa, .int .i64 Ma, .slice Aa mla.length ca, .int .i64 Na, .slice Ra na ka] 27) := ⟨_, rfl⟩
  have hB : Below w.heap.size w Z := by rw [hZ]; exact (Below.refl _ _).alloc (Nat.le_refl _) _
  have hZs : w.heap.size < Z.heap.size := by rw [hZ]; simp
  have f5 := Five.new w (.int .i64 Pa) (.int .i64 Ma) (.slice Aa mla.length ca) (.int .i64 Na) (.slice Ra na ka) 27
  have f5H : Hid (Five Z w.heap.size (.int .i64 Pa) (.int .i64 Ma) (.slice Aa mla.length ca) (.int .i64 Na) (.slice Ra na ka)) := by rw [hZ]; exact f5
  have hC1 := Check12_any Pa Ma Na mla na rowsa Aa Ra ca ka Z hPa hMa hla hna hka ((hra.below hB).more hB.size) ((hma.below hB).more hB.size)
  replace hZ := Lib.hid hZ
  by_cases hE : cErr Pa Ma Na mla na rowsa = 0
  · rw [show szV (cErr Pa Ma Na mla na rowsa) (qOf Pa Ma) na = exV (qOf Pa Ma) na from if_pos hE, show szE (cErr Pa Ma Na mla na rowsa) (qOf Pa Ma) na = exE (qOf Pa Ma) na from if_pos hE]
    obtain ⟨F, m1, M1, va⟩ := cErr_zero hE
    have hqq : qOf Pa Ma = F.q := by rw [va.hP, va.hM]; exact qOf_D F.toDesc
    have hq2 : 2 ≤ F.q := F.q2
    have hq3 : F.q ≤ 256 := F.q256
    have hO := fun W => Order_any Pa Ma Aa mla.length ca W hPa.2 hMa.2
    rw [hE] at hC1
    have hX := fun W => Exp3_any (qOf Pa Ma) na W (by rw [hqq]; exact hq2) (by rw [hqq]; exact hq3) (by omega)
    generalize exV (qOf Pa Ma) na = V at *
    generalize exE (qOf Pa Ma) na = E at *
    generalize qOf Pa Ma = q at *
    replace hC1 := Lib.hid hC1
    replace hX := fun W => Lib.hid (hX W)
    replace hO := fun W => Lib.hid (hO W)
    replace hE := Lib.hid hE
    replace hqq := Lib.hid hqq
    clear va hka
    go_enter Try.func75, Try.ntmps75
    obtain ⟨a0, a1, a2, a3, a4, -⟩ := f5
    go_wp2_with (fail)
    rw [← hZ.out]
    (with_reducible refine hC1.out.mono ?_)
    rintro e w1 ⟨rfl, hb1⟩
    have hB1 := hB.trans (hb1.mono hB.size)
    have hs1 : w.heap.size < w1.heap.size := Nat.lt_of_lt_of_le hZs hb1.size
    clear a0 a1 a2 a3 a4
    have f51 := f5H.out.keep hb1 hZs
    have kk := Lib.hid (show w1.cell? ⟨w.heap.size, 0, none⟩ = some (.int .i64 Pa) ∧ w1.cell? ⟨w.heap.size, 1, none⟩ = some (.int .i64 Ma) ∧ w1.cell? ⟨w.heap.size, 2, none⟩ = some (.slice Aa mla.length ca) ∧ w1.cell? ⟨w.heap.size, 4, none⟩ = some (.slice Ra na ka) from ⟨f51.1, f51.2.1, f51.2.2.1, f51.2.2.2.2.1⟩)
    clear f51
    go_wp2_with (fail)
    refine wp_region_held_drew (S := fun w' => w'.cell? ⟨w.heap.size, 0, none⟩ = some (.int .i64 Pa) ∧ w'.cell? ⟨w.heap.size, 1, none⟩ = some (.int .i64 Ma) ∧ w'.cell? ⟨w.heap.size, 2, none⟩ = some (.slice Aa mla.length ca) ∧ w'.cell? ⟨w.heap.size, 4, none⟩ = some (.slice Ra na ka)) (by kernel_rfl) (by (try dsimp only); exact kk.out) (fun hHeld => ?_)
    refine wpAnyH_take (i := 0) (oi := ⟨_, _, _, _, _, _⟩) (v := ?_) rfl (by kernel_rfl) (by kernel_rfl) (by kernel_rfl) (fun _ _ _ h => h) (Or.inl ⟨by rfl, ?_⟩) (by assumption) ?_
    rotate_left
    · intro w hSw; (try dsimp only at hSw); go_simp; try with_reducible rfl
    try simp only [Act.put, List.setIfInBounds_toArray, List.set_cons_zero, List.set_cons_succ]
    refine wpAnyH_take (i := 1) (oi := ⟨_, _, _, _, _, _⟩) (v := ?_) rfl (by kernel_rfl) (by kernel_rfl) (by kernel_rfl) (fun _ _ _ h => h) (Or.inl ⟨by rfl, ?_⟩) (by assumption) ?_
    rotate_left
    · intro w hSw; (try dsimp only at hSw); go_simp; try with_reducible rfl
    try simp only [Act.put, List.setIfInBounds_toArray, List.set_cons_zero, List.set_cons_succ]
    refine wpAnyH_take (i := 3) (oi := ⟨_, _, _, _, _, _⟩) (v := ?_) rfl (by kernel_rfl) (by kernel_rfl) (by kernel_rfl) (fun _ _ _ h => h) (Or.inl ⟨by rfl, ?_⟩) (by assumption) ?_
    rotate_left
    · intro w hSw; (try dsimp only at hSw); go_simp; try with_reducible rfl
    try simp only [Act.put, List.setIfInBounds_toArray, List.set_cons_zero, List.set_cons_succ]
    refine wpAnyH_take (i := 4) (oi := ⟨_, _, _, _, _, _⟩) (v := ?_) rfl (by kernel_rfl) (by kernel_rfl) (by kernel_rfl) (fun _ _ _ h => h) (Or.inl ⟨by rfl, ?_⟩) (by assumption) ?_
    rotate_left
    · intro w hSw; (try dsimp only at hSw); go_simp; try with_reducible rfl
    try simp only [Act.put, List.setIfInBounds_toArray, List.set_cons_zero, List.set_cons_succ]
    refine wpAnyH_take (i := 5) (oi := ⟨_, _, _, _, _, _⟩) (v := ?_) rfl (by kernel_rfl) (by kernel_rfl) (by kernel_rfl) (fun _ _ _ h => h) (Or.inl ⟨by rfl, ?_⟩) (by assumption) ?_
    rotate_left
    · intro w hSw; (try dsimp only at hSw); go_simp; try with_reducible rfl
    try simp only [Act.put, List.setIfInBounds_toArray, List.set_cons_zero, List.set_cons_succ]
    refine wpAnyH_ready (rs := [2]) (by kernel_rfl) (by simp) ?_
    refine AllReadyH.cons (o := ⟨_, _, _, _, _, _⟩) rfl (fun K hK => ?_) AllReadyH.nil
    go_simp
    go_at_call 43
    (with_reducible refine ((hO _)).out.mono ?_)
    rintro e w2 ⟨rfl, hb2⟩
    have hb2' : Below w1.heap.size w1 w2 := (Below.refl _ w1).drew.trans hb2
    have kk2 := Lib.hid (show w2.cell? ⟨w.heap.size, 0, none⟩ = some (.int .i64 Pa) ∧ w2.cell? ⟨w.heap.size, 1, none⟩ = some (.int .i64 Ma) ∧ w2.cell? ⟨w.heap.size, 2, none⟩ = some (.slice Aa mla.length ca) ∧ w2.cell? ⟨w.heap.size, 4, none⟩ = some (.slice Ra na ka) from ⟨(hb2'.cell (p := ⟨w.heap.size, 0, none⟩) hs1).trans kk.out.1, (hb2'.cell (p := ⟨w.heap.size, 1, none⟩) hs1).trans kk.out.2.1, (hb2'.cell (p := ⟨w.heap.size, 2, none⟩) hs1).trans kk.out.2.2.1, (hb2'.cell (p := ⟨w.heap.size, 4, none⟩) hs1).trans kk.out.2.2.2⟩)
    go_wp2_with (fail)
    refine hK.out _ _ (by (try dsimp only); exact kk2.out) (fun hHeld => ?_)
    clear hK K
    try simp only [Act.put, List.setIfInBounds_toArray, List.set_cons_zero, List.set_cons_succ]
    refine wpAnyH_ready (rs := [6]) (by kernel_rfl) (by simp) ?_
    refine AllReadyH.cons (o := ⟨_, _, _, _, _, _⟩) rfl (fun K hK => ?_) AllReadyH.nil
    go_simp
    go_at_call 114
    (with_reducible refine ((hX _)).out.mono ?_)
    rintro e w3 ⟨rfl, rfl⟩
    go_wp2_with (fail)
    refine hK.out _ _ (by (try dsimp only); exact kk2.out) (fun hHeld => ?_)
    clear hK K
    try simp only [Act.put, List.setIfInBounds_toArray, List.set_cons_zero, List.set_cons_succ]
    refine wpAnyH_take (i := 7) (oi := ⟨_, _, _, _, _, _⟩) (v := ?_) rfl (by kernel_rfl) (by kernel_rfl) (by kernel_rfl) (fun _ _ _ h => h) (Or.inl ⟨by rfl, ?_⟩) (by assumption) ?_
    rotate_left
    · intro w hSw; (try dsimp only at hSw); go_simp; try with_reducible rfl
    try simp only [Act.put, List.setIfInBounds_toArray, List.set_cons_zero, List.set_cons_succ]
    refine wpAnyH_take (i := 8) (oi := ⟨_, _, _, _, _, _⟩) (v := ?_) rfl (by kernel_rfl) (by kernel_rfl) (by kernel_rfl) (fun _ _ _ h => h) (Or.inl ⟨by rfl, ?_⟩) (by assumption) ?_
    rotate_left
    · intro w hSw; (try dsimp only at hSw); go_simp; try with_reducible rfl
    try simp only [Act.put, List.setIfInBounds_toArray, List.set_cons_zero, List.set_cons_succ]
    refine wpAnyH_take (i := 9) (oi := ⟨_, _, _, _, _, _⟩) (v := ?_) rfl (by kernel_rfl) (by kernel_rfl) (by kernel_rfl) (fun _ _ _ h => h) (Or.inl ⟨by rfl, ?_⟩) (by assumption) ?_
    rotate_left
    · intro w hSw; (try dsimp only at hSw); go_simp; try with_reducible rfl
    try simp only [Act.put, List.setIfInBounds_toArray, List.set_cons_zero, List.set_cons_succ]
    refine wpAnyH_take (i := 10) (oi := ⟨_, _, _, _, _, _⟩) (v := ?_) rfl (by kernel_rfl) (by kernel_rfl) (by kernel_rfl) (fun _ _ _ h => h) (Or.inl ⟨by rfl, ?_⟩) (by assumption) ?_
    rotate_left
    · intro w hSw; (try dsimp only at hSw); go_simp; try with_reducible rfl
    try simp only [Act.put, List.setIfInBounds_toArray, List.set_cons_zero, List.set_cons_succ]
    refine wpAnyH_done (by kernel_rfl) ?_ _
    go_wp2_with (fail)
    go_ret2
    exact ⟨rfl, hB1.trans (hb2'.mono hB1.size)⟩
  · rw [show szV (cErr Pa Ma Na mla na rowsa) (qOf Pa Ma) na = 0 from if_neg hE, show szE (cErr Pa Ma Na mla na rowsa) (qOf Pa Ma) na = cErr Pa Ma Na mla na rowsa from if_neg hE]
    generalize cErr Pa Ma Na mla na rowsa = E at *
    have hEb : (E != 0) = true := by rw [bne_iff_ne]; exact hE
    replace hC1 := Lib.hid hC1
    replace hE := Lib.hid hE
    clear hka
    go_enter Try.func75, Try.ntmps75
    obtain ⟨a0, a1, a2, a3, a4, -⟩ := f5
    go_wp2_with (fail)
    rw [← hZ.out]
    (with_reducible refine hC1.out.mono ?_)
    rintro e w1 ⟨rfl, hb1⟩
    go_wp2_with (fail)
    go_ret2
    exact ⟨rfl, hB.trans (hb1.mono hB.size)⟩

/-- Count's answer: the number of words if it is at most most, else 0. -/
noncomputable def cnV (E : Int) (q n : Nat) (most : Int) : Int := if E = 0 ∧ q ^ n ≤ 65536 ∧ ((q ^ n : Nat) : Int) ≤ most then (q ^ n : Nat) else 0
theorem cnV_no {E : Int} {q n : Nat} {most : Int} (h : szE E q n ≠ 0 ∨ most < szV E q n) : cnV E q n most = 0 := if_neg fun ⟨h1, h2, h3⟩ => by
  unfold szE szV exE exV at h
  rw [if_pos h1, if_pos h2, if_pos h1, if_pos h2] at h
  omega
theorem cnV_yes {E : Int} {q n : Nat} {most : Int} (h : szE E q n = 0) (h2 : szV E q n ≤ most) : cnV E q n most = szV E q n := by
  unfold szE exE at h
  by_cases h1 : E = 0
  · rw [if_pos h1] at h
    by_cases h3 : q ^ n ≤ 65536
    · unfold szV exV at h2 ⊢
      rw [if_pos h1, if_pos h3] at h2 ⊢
      exact if_pos ⟨h1, h3, h2⟩
    · rw [if_neg h3] at h; cases h
  · rw [if_neg h1] at h; exact absurd h h1
set_option maxHeartbeats 1000000 in
theorem Count12_any (Pa Ma Na : Int) (mla : List Int) (na : Nat) (rowsa : Nat → List Int) (Aa Ra : Option Addr) (ca ka : Nat) (most : Int) (w : World) (hPa : I64 Pa) (hMa : I64 Ma) (hla : mla.length ≤ maxLen) (hna : na ≤ 64) (hka : ∀ i, i < na → (rowsa i).length ≤ 4200) (hra : Rd w w.heap.size Aa mla) (hma : RdM w w.heap.size Ra na rowsa) (_hmo : I64 most) :
    Calls Try.prog 39 #[.agg #[.int .i64 Pa, .int .i64 Ma, .slice Aa mla.length ca, .int .i64 Na, .slice Ra na ka], .int .i64 most] w fun e w' => e = .returned (.int .i64 (cnV (cErr Pa Ma Na mla na rowsa) (qOf Pa Ma) na most)) ∧ Below w.heap.size w w' := by
  obtain ⟨Z, hZ⟩ : ∃ Z, Z = w.alloc (.cells #[.int .i64 Pa, .int .i64 Ma, .slice Aa mla.length ca, .int .i64 Na, .slice Ra na ka] 27) := ⟨_, rfl⟩
  have hB : Below w.heap.size w Z := by rw [hZ]; exact (Below.refl _ _).alloc (Nat.le_refl _) _
  have hS := Size12_any Pa Ma Na mla na rowsa Aa Ra ca ka Z hPa hMa hla hna hka ((hra.below hB).more hB.size) ((hma.below hB).more hB.size)
  replace hZ := Lib.hid hZ
  clear hka
  generalize cErr Pa Ma Na mla na rowsa = E at *
  generalize qOf Pa Ma = q at *
  by_cases h1 : szE E q na = 0
  · by_cases h2 : szV E q na ≤ most
    · rw [cnV_yes h1 h2]
      rw [h1] at hS
      generalize szV E q na = V at *
      have h3 : ¬ most < V := by omega
      replace h1 := Lib.hid h1
      replace hS := Lib.hid hS
      go_enter Try.func39, Try.ntmps39
      go_wp2_with (fail)
      rw [← hZ.out]
      (with_reducible refine hS.out.mono ?_)
      rintro e w1 ⟨rfl, hb1⟩
      go_wp2_with (fail)
      go_ret
      exact ⟨rfl, hB.trans (hb1.mono hB.size)⟩
    · rw [cnV_no (.inr (by omega))]
      rw [h1] at hS
      generalize szV E q na = V at *
      have h3 : most < V := by omega
      replace h1 := Lib.hid h1
      replace hS := Lib.hid hS
      go_enter Try.func39, Try.ntmps39
      go_wp2_with (fail)
      rw [← hZ.out]
      (with_reducible refine hS.out.mono ?_)
      rintro e w1 ⟨rfl, hb1⟩
      go_wp2_with (fail)
      go_ret
      exact ⟨rfl, hB.trans (hb1.mono hB.size)⟩
  · rw [cnV_no (.inl h1)]
    generalize szV E q na = V at *
    generalize szE E q na = E2 at *
    have hEb : (E2 != 0) = true := by rw [bne_iff_ne]; exact h1
    replace h1 := Lib.hid h1
    replace hS := Lib.hid hS
    go_enter Try.func39, Try.ntmps39
    go_wp2_with (fail)
    rw [← hZ.out]
    (with_reducible refine hS.out.mono ?_)
    rintro e w1 ⟨rfl, hb1⟩
    go_wp2_with (fail)
    go_ret
    exact ⟨rfl, hB.trans (hb1.mono hB.size)⟩
end Go.Proofs.Ytghgbjgoedlnjaa
