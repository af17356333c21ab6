/- The program's combine.checked of two and of three codes; the reference's Two. -/
import Derived.Test.YtkmhopefnfaecaaZgCodE
import Derived.Test.YtkmhopefnfaecaaZgCodG
import Derived.Test.YtkmhopefnfaecaaZgCodD
namespace Go.Proofs.Ytkmhopefnfaecaa
open Go.RowKit Cw
attribute [local go_sem] Oper.semAt_some

theorem eqF_comm {P M P' M' : Int} {ml ml' : List Int} : eqF P M ml P' M' ml' = eqF P' M' ml' P M ml := by
  unfold eqF
  rw [decide_eq_decide]
  exact ⟨fun ⟨a, b, c⟩ => ⟨a.symm, b.symm, c.symm⟩, fun ⟨a, b, c⟩ => ⟨a.symm, b.symm, c.symm⟩⟩

open Classical in
/-- The error of two codes over one field. -/
noncomputable def twoE (Pa Ma Na : Int) (mla : List Int) (na : Nat) (rowsa : Nat → List Int) (_Aa _Ra : Option Addr) (_ca _ka : Nat) (Pb Mb Nb : Int) (mlb : List Int) (nb : Nat) (rowsb : Nat → List Int) (_Ab _Rb : Option Addr) (_cb _kb : Nat) : Int := if cErr Pa Ma Na mla na rowsa ≠ 0 then cErr Pa Ma Na mla na rowsa else if cErr Pb Mb Nb mlb nb rowsb ≠ 0 then cErr Pb Mb Nb mlb nb rowsb else if eqF Pa Ma mla Pb Mb mlb = true then 0 else 10
theorem twoE_a {Pa Ma Na : Int} {mla : List Int} {na : Nat} {rowsa : Nat → List Int} {Aa Ra : Option Addr} {ca ka : Nat} {Pb Mb Nb : Int} {mlb : List Int} {nb : Nat} {rowsb : Nat → List Int} {Ab Rb : Option Addr} {cb kb : Nat} (h : cErr Pa Ma Na mla na rowsa ≠ 0) : twoE Pa Ma Na mla na rowsa Aa Ra ca ka Pb Mb Nb mlb nb rowsb Ab Rb cb kb = cErr Pa Ma Na mla na rowsa := if_pos h
theorem twoE_b {Pa Ma Na : Int} {mla : List Int} {na : Nat} {rowsa : Nat → List Int} {Aa Ra : Option Addr} {ca ka : Nat} {Pb Mb Nb : Int} {mlb : List Int} {nb : Nat} {rowsb : Nat → List Int} {Ab Rb : Option Addr} {cb kb : Nat} (h : cErr Pa Ma Na mla na rowsa = 0) (h2 : cErr Pb Mb Nb mlb nb rowsb ≠ 0) : twoE Pa Ma Na mla na rowsa Aa Ra ca ka Pb Mb Nb mlb nb rowsb Ab Rb cb kb = cErr Pb Mb Nb mlb nb rowsb := by unfold twoE; rw [if_neg (not_not_intro h), if_pos h2]
theorem twoE_m {Pa Ma Na : Int} {mla : List Int} {na : Nat} {rowsa : Nat → List Int} {Aa Ra : Option Addr} {ca ka : Nat} {Pb Mb Nb : Int} {mlb : List Int} {nb : Nat} {rowsb : Nat → List Int} {Ab Rb : Option Addr} {cb kb : Nat} (h : cErr Pa Ma Na mla na rowsa = 0) (h2 : cErr Pb Mb Nb mlb nb rowsb = 0) (h3 : eqF Pa Ma mla Pb Mb mlb = false) : twoE Pa Ma Na mla na rowsa Aa Ra ca ka Pb Mb Nb mlb nb rowsb Ab Rb cb kb = 10 := by unfold twoE; rw [if_neg (not_not_intro h), if_neg (not_not_intro h2), if_neg (by rw [h3]; simp)]
theorem twoE_ok {Pa Ma Na : Int} {mla : List Int} {na : Nat} {rowsa : Nat → List Int} {Aa Ra : Option Addr} {ca ka : Nat} {Pb Mb Nb : Int} {mlb : List Int} {nb : Nat} {rowsb : Nat → List Int} {Ab Rb : Option Addr} {cb kb : Nat} (h : cErr Pa Ma Na mla na rowsa = 0) (h2 : cErr Pb Mb Nb mlb nb rowsb = 0) (h3 : eqF Pa Ma mla Pb Mb mlb = true) : twoE Pa Ma Na mla na rowsa Aa Ra ca ka Pb Mb Nb mlb nb rowsb Ab Rb cb kb = 0 := by unfold twoE; rw [if_neg (not_not_intro h), if_neg (not_not_intro h2), if_pos h3]

set_option maxHeartbeats 2000000 in
theorem checked2_e0 (Pa Ma Na : Int) (mla : List Int) (na : Nat) (rowsa : Nat → List Int) (Aa Ra : Option Addr) (ca ka : Nat) (Pb Mb Nb : Int) (mlb : List Int) (nb : Nat) (rowsb : Nat → List Int) (Ab Rb : Option Addr) (cb kb : Nat) (X : Nat) (w : World) (hPa : I64 Pa) (hMa : I64 Ma) (hla : mla.length ≤ maxLen) (hna : na ≤ 64) (hka : ∀ i, i < na → (rowsa i).length ≤ 4200) (hra : Rd w w.heap.size Aa mla) (hma : RdM w w.heap.size Ra na rowsa) (_hPb : I64 Pb) (_hMb : I64 Mb) (_hlb : mlb.length ≤ maxLen) (_hnb : nb ≤ 64) (_hkb : ∀ i, i < nb → (rowsb i).length ≤ 4200) (_hrb : Rd w w.heap.size Ab mlb) (_hmb : RdM w w.heap.size Rb nb rowsb)  {E : Int} (ea : cErr Pa Ma Na mla na rowsa = E) (hE0 : E ≠ 0) (hX : X < w.heap.size) (ha0 : (w.cell? ⟨X, 0, none⟩ = some (.int .i64 Pa) ∧ w.cell? ⟨X, 1, none⟩ = some (.int .i64 Ma) ∧ w.cell? ⟨X, 2, none⟩ = some (.slice Aa mla.length ca) ∧ w.cell? ⟨X, 3, none⟩ = some (.int .i64 Na) ∧ w.cell? ⟨X, 4, none⟩ = some (.slice Ra na ka))) (hb0 : (w.cell? ⟨X, 5, none⟩ = some (.int .i64 Pb) ∧ w.cell? ⟨X, 6, none⟩ = some (.int .i64 Mb) ∧ w.cell? ⟨X, 7, none⟩ = some (.slice Ab mlb.length cb) ∧ w.cell? ⟨X, 8, none⟩ = some (.int .i64 Nb) ∧ w.cell? ⟨X, 9, none⟩ = some (.slice Rb nb kb))) :
    Calls Try.prog 42 #[.slice (some ⟨X, 0, none⟩) 2 2] w fun e w' => e = .returned (.int .i64 E) ∧ Below w.heap.size w w' := by
  have haH := Lib.hid ha0
  have hbH := Lib.hid hb0
  have hCa := fun W h1 h2 => cCheck_any Pa Ma Na mla na rowsa Aa Ra ca ka W hPa hMa hla hna hka h1 h2
  rw [ea] at hCa
  replace hCa := fun W h1 h2 => Lib.hid (hCa W h1 h2)
  have hEb : (E != 0) = true := by rw [bne_iff_ne]; exact hE0
  replace hE0 := Lib.hid hE0
  clear ha0 hb0
  replace ea := Lib.hid ea
  go_enter Try.func42, Try.ntmps42
  go_wp2_with (fail)
  go_loopw [10, 4, 5] (fun i _ _ wr => ∃ k : Nat, k ≤ 0 ∧ i = .int .i64 k ∧ Below w.heap.size w wr) (fun i _ _ _ => 2 - (intOf i).toNat)
  case atStart => exact ⟨0, by omega, rfl, Below.refl _ _⟩
  case round =>
    obtain ⟨k, hk, rfl, hbw⟩ := hrel
    obtain ⟨w3, rfl⟩ : ∃ w3 : World, w3 = wr := ⟨_, rfl⟩
    obtain rfl : k = 0 := by omega
    · have hb3 : Below w3.heap.size w3 (w3.alloc (.cells #[.int .i64 Pa, .int .i64 Ma, .slice Aa mla.length ca, .int .i64 Na, .slice Ra na ka] 27)) := (Below.refl _ _).alloc (Nat.le_refl _) _
      have hB3 := Lib.hid (hbw.trans (hb3.mono hbw.size))
      have hC := hCa _ ((hra.below hB3.out).more hB3.out.size) ((hma.below hB3.out).more hB3.out.size)
      clear hb3
      obtain ⟨q0, q1, q2, q3, q4⟩ := haH.out
      have r0 := (hbw.cell (p := ⟨X, 0, none⟩) hX).trans q0
      have r1 := (hbw.cell (p := ⟨X, 1, none⟩) hX).trans q1
      have r2 := (hbw.cell (p := ⟨X, 2, none⟩) hX).trans q2
      have r3 := (hbw.cell (p := ⟨X, 3, none⟩) hX).trans q3
      have r4 := (hbw.cell (p := ⟨X, 4, none⟩) hX).trans q4
      clear q0 q1 q2 q3 q4
      go_wp2_with (fail)
      (with_reducible refine hC.out.mono ?_)
      rintro e w4 ⟨rfl, hb4⟩
      clear r0 r1 r2 r3 r4
      go_wp2_with (fail)
      go_ret
      exact ⟨rfl, hB3.out.trans (hb4.mono hB3.out.size)⟩
set_option maxHeartbeats 2000000 in
theorem checked2_e1 (Pa Ma Na : Int) (mla : List Int) (na : Nat) (rowsa : Nat → List Int) (Aa Ra : Option Addr) (ca ka : Nat) (Pb Mb Nb : Int) (mlb : List Int) (nb : Nat) (rowsb : Nat → List Int) (Ab Rb : Option Addr) (cb kb : Nat) (X : Nat) (w : World) (hPa : I64 Pa) (hMa : I64 Ma) (hla : mla.length ≤ maxLen) (hna : na ≤ 64) (hka : ∀ i, i < na → (rowsa i).length ≤ 4200) (hra : Rd w w.heap.size Aa mla) (hma : RdM w w.heap.size Ra na rowsa) (hPb : I64 Pb) (hMb : I64 Mb) (hlb : mlb.length ≤ maxLen) (hnb : nb ≤ 64) (hkb : ∀ i, i < nb → (rowsb i).length ≤ 4200) (hrb : Rd w w.heap.size Ab mlb) (hmb : RdM w w.heap.size Rb nb rowsb) (ea : cErr Pa Ma Na mla na rowsa = 0) {E : Int} (eb : cErr Pb Mb Nb mlb nb rowsb = E) (hE0 : E ≠ 0) (hX : X < w.heap.size) (ha0 : (w.cell? ⟨X, 0, none⟩ = some (.int .i64 Pa) ∧ w.cell? ⟨X, 1, none⟩ = some (.int .i64 Ma) ∧ w.cell? ⟨X, 2, none⟩ = some (.slice Aa mla.length ca) ∧ w.cell? ⟨X, 3, none⟩ = some (.int .i64 Na) ∧ w.cell? ⟨X, 4, none⟩ = some (.slice Ra na ka))) (hb0 : (w.cell? ⟨X, 5, none⟩ = some (.int .i64 Pb) ∧ w.cell? ⟨X, 6, none⟩ = some (.int .i64 Mb) ∧ w.cell? ⟨X, 7, none⟩ = some (.slice Ab mlb.length cb) ∧ w.cell? ⟨X, 8, none⟩ = some (.int .i64 Nb) ∧ w.cell? ⟨X, 9, none⟩ = some (.slice Rb nb kb))) :
    Calls Try.prog 42 #[.slice (some ⟨X, 0, none⟩) 2 2] w fun e w' => e = .returned (.int .i64 E) ∧ Below w.heap.size w w' := by
  have haH := Lib.hid ha0
  have hbH := Lib.hid hb0
  have hCa := fun W h1 h2 => cCheck_any Pa Ma Na mla na rowsa Aa Ra ca ka W hPa hMa hla hna hka h1 h2
  rw [ea] at hCa
  replace hCa := fun W h1 h2 => Lib.hid (hCa W h1 h2)
  have hCb := fun W h1 h2 => cCheck_any Pb Mb Nb mlb nb rowsb Ab Rb cb kb W hPb hMb hlb hnb hkb h1 h2
  rw [eb] at hCb
  replace hCb := fun W h1 h2 => Lib.hid (hCb W h1 h2)
  have hEb : (E != 0) = true := by rw [bne_iff_ne]; exact hE0
  replace hE0 := Lib.hid hE0
  clear ha0 hb0
  replace ea := Lib.hid ea
  replace eb := Lib.hid eb
  go_enter Try.func42, Try.ntmps42
  go_wp2_with (fail)
  go_loopw [10, 4, 5] (fun i _ _ wr => ∃ k : Nat, k ≤ 1 ∧ i = .int .i64 k ∧ Below w.heap.size w wr) (fun i _ _ _ => 2 - (intOf i).toNat)
  case atStart => exact ⟨0, by omega, rfl, Below.refl _ _⟩
  case round =>
    obtain ⟨k, hk, rfl, hbw⟩ := hrel
    obtain ⟨w3, rfl⟩ : ∃ w3 : World, w3 = wr := ⟨_, rfl⟩
    rcases (by omega : k = 0 ∨ k = 1) with rfl | rfl
    · have hb3 : Below w3.heap.size w3 (w3.alloc (.cells #[.int .i64 Pa, .int .i64 Ma, .slice Aa mla.length ca, .int .i64 Na, .slice Ra na ka] 27)) := (Below.refl _ _).alloc (Nat.le_refl _) _
      have hB3 := Lib.hid (hbw.trans (hb3.mono hbw.size))
      have hC := hCa _ ((hra.below hB3.out).more hB3.out.size) ((hma.below hB3.out).more hB3.out.size)
      clear hb3
      obtain ⟨q0, q1, q2, q3, q4⟩ := haH.out
      have r0 := (hbw.cell (p := ⟨X, 0, none⟩) hX).trans q0
      have r1 := (hbw.cell (p := ⟨X, 1, none⟩) hX).trans q1
      have r2 := (hbw.cell (p := ⟨X, 2, none⟩) hX).trans q2
      have r3 := (hbw.cell (p := ⟨X, 3, none⟩) hX).trans q3
      have r4 := (hbw.cell (p := ⟨X, 4, none⟩) hX).trans q4
      clear q0 q1 q2 q3 q4
      go_wp2_with (fail)
      (with_reducible refine hC.out.mono ?_)
      rintro e w4 ⟨rfl, hb4⟩
      clear r0 r1 r2 r3 r4
      go_wp2_with (fail)
      go_roundw
      case rel => exact ⟨1, by omega, by go_num, hB3.out.trans (hb4.mono hB3.out.size)⟩
      case measure => simp [intOf]
    · have hb3 : Below w3.heap.size w3 (w3.alloc (.cells #[.int .i64 Pb, .int .i64 Mb, .slice Ab mlb.length cb, .int .i64 Nb, .slice Rb nb kb] 27)) := (Below.refl _ _).alloc (Nat.le_refl _) _
      have hB3 := Lib.hid (hbw.trans (hb3.mono hbw.size))
      have hC := hCb _ ((hrb.below hB3.out).more hB3.out.size) ((hmb.below hB3.out).more hB3.out.size)
      clear hb3
      obtain ⟨q0, q1, q2, q3, q4⟩ := hbH.out
      have r0 := (hbw.cell (p := ⟨X, 5, none⟩) hX).trans q0
      have r1 := (hbw.cell (p := ⟨X, 6, none⟩) hX).trans q1
      have r2 := (hbw.cell (p := ⟨X, 7, none⟩) hX).trans q2
      have r3 := (hbw.cell (p := ⟨X, 8, none⟩) hX).trans q3
      have r4 := (hbw.cell (p := ⟨X, 9, none⟩) hX).trans q4
      clear q0 q1 q2 q3 q4
      go_wp2_with (fail)
      (with_reducible refine hC.out.mono ?_)
      rintro e w4 ⟨rfl, hb4⟩
      clear r0 r1 r2 r3 r4
      go_wp2_with (fail)
      go_ret
      exact ⟨rfl, hB3.out.trans (hb4.mono hB3.out.size)⟩
set_option maxHeartbeats 4000000 in
theorem checked2_f1 (Pa Ma Na : Int) (mla : List Int) (na : Nat) (rowsa : Nat → List Int) (Aa Ra : Option Addr) (ca ka : Nat) (Pb Mb Nb : Int) (mlb : List Int) (nb : Nat) (rowsb : Nat → List Int) (Ab Rb : Option Addr) (cb kb : Nat) (X : Nat) (w : World) (hPa : I64 Pa) (hMa : I64 Ma) (hla : mla.length ≤ maxLen) (hna : na ≤ 64) (hka : ∀ i, i < na → (rowsa i).length ≤ 4200) (hra : Rd w w.heap.size Aa mla) (hma : RdM w w.heap.size Ra na rowsa) (hPb : I64 Pb) (hMb : I64 Mb) (hlb : mlb.length ≤ maxLen) (hnb : nb ≤ 64) (hkb : ∀ i, i < nb → (rowsb i).length ≤ 4200) (hrb : Rd w w.heap.size Ab mlb) (hmb : RdM w w.heap.size Rb nb rowsb) (ea : cErr Pa Ma Na mla na rowsa = 0) (eb : cErr Pb Mb Nb mlb nb rowsb = 0) (fb : eqF Pb Mb mlb Pa Ma mla = false) (hX : X < w.heap.size) (ha0 : (w.cell? ⟨X, 0, none⟩ = some (.int .i64 Pa) ∧ w.cell? ⟨X, 1, none⟩ = some (.int .i64 Ma) ∧ w.cell? ⟨X, 2, none⟩ = some (.slice Aa mla.length ca) ∧ w.cell? ⟨X, 3, none⟩ = some (.int .i64 Na) ∧ w.cell? ⟨X, 4, none⟩ = some (.slice Ra na ka))) (hb0 : (w.cell? ⟨X, 5, none⟩ = some (.int .i64 Pb) ∧ w.cell? ⟨X, 6, none⟩ = some (.int .i64 Mb) ∧ w.cell? ⟨X, 7, none⟩ = some (.slice Ab mlb.length cb) ∧ w.cell? ⟨X, 8, none⟩ = some (.int .i64 Nb) ∧ w.cell? ⟨X, 9, none⟩ = some (.slice Rb nb kb))) :
    Calls Try.prog 42 #[.slice (some ⟨X, 0, none⟩) 2 2] w fun e w' => e = .returned (.int .i64 10) ∧ Below w.heap.size w w' := by
  have haH := Lib.hid ha0
  have hbH := Lib.hid hb0
  have hCa := fun W h1 h2 => cCheck_any Pa Ma Na mla na rowsa Aa Ra ca ka W hPa hMa hla hna hka h1 h2
  rw [ea] at hCa
  replace hCa := fun W h1 h2 => Lib.hid (hCa W h1 h2)
  have hCb := fun W h1 h2 => cCheck_any Pb Mb Nb mlb nb rowsb Ab Rb cb kb W hPb hMb hlb hnb hkb h1 h2
  rw [eb] at hCb
  replace hCb := fun W h1 h2 => Lib.hid (hCb W h1 h2)
  have hSb := fun Aa' Ab' c1 c2 W h1 h2 => fSame_any Pb Mb Pa Ma mlb mla Aa' Ab' c1 c2 W h1 h2 hlb
  clear ha0 hb0
  replace ea := Lib.hid ea
  replace eb := Lib.hid eb
  replace fb := Lib.hid fb
  go_enter Try.func42, Try.ntmps42
  go_wp2_with (fail)
  go_loopw [10, 4, 5] (fun i _ _ wr => ∃ k : Nat, k ≤ 2 ∧ i = .int .i64 k ∧ Below w.heap.size w wr) (fun i _ _ _ => 2 - (intOf i).toNat)
  case atStart => exact ⟨0, by omega, rfl, Below.refl _ _⟩
  case round =>
    obtain ⟨k, hk, rfl, hbw⟩ := hrel
    obtain ⟨w3, rfl⟩ : ∃ w3 : World, w3 = wr := ⟨_, rfl⟩
    rcases (by omega : k = 0 ∨ k = 1 ∨ k = 2) with rfl | rfl | rfl
    · have hb3 : Below w3.heap.size w3 (w3.alloc (.cells #[.int .i64 Pa, .int .i64 Ma, .slice Aa mla.length ca, .int .i64 Na, .slice Ra na ka] 27)) := (Below.refl _ _).alloc (Nat.le_refl _) _
      have hB3 := Lib.hid (hbw.trans (hb3.mono hbw.size))
      have hC := hCa _ ((hra.below hB3.out).more hB3.out.size) ((hma.below hB3.out).more hB3.out.size)
      clear hb3
      obtain ⟨q0, q1, q2, q3, q4⟩ := haH.out
      have r0 := (hbw.cell (p := ⟨X, 0, none⟩) hX).trans q0
      have r1 := (hbw.cell (p := ⟨X, 1, none⟩) hX).trans q1
      have r2 := (hbw.cell (p := ⟨X, 2, none⟩) hX).trans q2
      have r3 := (hbw.cell (p := ⟨X, 3, none⟩) hX).trans q3
      have r4 := (hbw.cell (p := ⟨X, 4, none⟩) hX).trans q4
      clear q0 q1 q2 q3 q4
      go_wp2_with (fail)
      (with_reducible refine hC.out.mono ?_)
      rintro e w4 ⟨rfl, hb4⟩
      clear r0 r1 r2 r3 r4
      go_wp2_with (fail)
      go_roundw
      case rel => exact ⟨1, by omega, by go_num, hB3.out.trans (hb4.mono hB3.out.size)⟩
      case measure => simp [intOf]
    · have hb3 : Below w3.heap.size w3 (w3.alloc (.cells #[.int .i64 Pb, .int .i64 Mb, .slice Ab mlb.length cb, .int .i64 Nb, .slice Rb nb kb] 27)) := (Below.refl _ _).alloc (Nat.le_refl _) _
      have hB3 := Lib.hid (hbw.trans (hb3.mono hbw.size))
      have hC := hCb _ ((hrb.below hB3.out).more hB3.out.size) ((hmb.below hB3.out).more hB3.out.size)
      clear hb3
      obtain ⟨q0, q1, q2, q3, q4⟩ := hbH.out
      have r0 := (hbw.cell (p := ⟨X, 5, none⟩) hX).trans q0
      have r1 := (hbw.cell (p := ⟨X, 6, none⟩) hX).trans q1
      have r2 := (hbw.cell (p := ⟨X, 7, none⟩) hX).trans q2
      have r3 := (hbw.cell (p := ⟨X, 8, none⟩) hX).trans q3
      have r4 := (hbw.cell (p := ⟨X, 9, none⟩) hX).trans q4
      clear q0 q1 q2 q3 q4
      go_wp2_with (fail)
      (with_reducible refine hC.out.mono ?_)
      rintro e w4 ⟨rfl, hb4⟩
      clear r0 r1 r2 r3 r4
      go_wp2_with (fail)
      go_roundw
      case rel => exact ⟨2, by omega, by go_num, hB3.out.trans (hb4.mono hB3.out.size)⟩
      case measure => simp [intOf]
    · rw [show ((2 : Nat) : Int) = 2 from rfl]
      go_wp2_with (fail)
      go_loopw [23, 7] (fun i _ wr => ∃ k : Nat, k ≤ 0 ∧ i = .int .i64 k ∧ Below w.heap.size w wr) (fun i _ _ => 1 - (intOf i).toNat)
      case atStart => exact ⟨0, by omega, rfl, hbw⟩
      case round =>
        clear hbw
        obtain ⟨k, hk, rfl, hbw⟩ := hrel
        obtain ⟨w5, rfl⟩ : ∃ w5 : World, w5 = wr := ⟨_, rfl⟩
        obtain rfl : k = 0 := by omega
        · have hb3 : Below w5.heap.size w5 (w5.alloc (.cells #[.int .i64 Pb, .int .i64 Mb, .slice Ab mlb.length cb, .int .i64 Nb, .slice Rb nb kb] 27)) := (Below.refl _ _).alloc (Nat.le_refl _) _
          have hB3 := Lib.hid (hbw.trans (hb3.mono hbw.size))
          have hX5 : X < w5.heap.size := Nat.lt_of_lt_of_le hX hbw.size
          have hz5 : w5.heap.size < (w5.alloc (.cells #[.int .i64 Pb, .int .i64 Mb, .slice Ab mlb.length cb, .int .i64 Nb, .slice Rb nb kb] 27)).heap.size := by simp
          have kk := Lib.hid (show ((w5.alloc (.cells #[.int .i64 Pb, .int .i64 Mb, .slice Ab mlb.length cb, .int .i64 Nb, .slice Rb nb kb] 27)).cell? ⟨w5.heap.size, 0, none⟩ = some (.int .i64 Pb) ∧ (w5.alloc (.cells #[.int .i64 Pb, .int .i64 Mb, .slice Ab mlb.length cb, .int .i64 Nb, .slice Rb nb kb] 27)).cell? ⟨w5.heap.size, 1, none⟩ = some (.int .i64 Mb) ∧ (w5.alloc (.cells #[.int .i64 Pb, .int .i64 Mb, .slice Ab mlb.length cb, .int .i64 Nb, .slice Rb nb kb] 27)).cell? ⟨w5.heap.size, 2, none⟩ = some (.slice Ab mlb.length cb)) ∧ (w5.alloc (.cells #[.int .i64 Pb, .int .i64 Mb, .slice Ab mlb.length cb, .int .i64 Nb, .slice Rb nb kb] 27)).cell? ⟨X, 0, none⟩ = some (.int .i64 Pa) ∧ (w5.alloc (.cells #[.int .i64 Pb, .int .i64 Mb, .slice Ab mlb.length cb, .int .i64 Nb, .slice Rb nb kb] 27)).cell? ⟨X, 1, none⟩ = some (.int .i64 Ma) ∧ (w5.alloc (.cells #[.int .i64 Pb, .int .i64 Mb, .slice Ab mlb.length cb, .int .i64 Nb, .slice Rb nb kb] 27)).cell? ⟨X, 2, none⟩ = some (.slice Aa mla.length ca) from ⟨by simp [go_sem], (hB3.out.cell (p := ⟨X, 0, none⟩) hX).trans haH.out.1, (hB3.out.cell (p := ⟨X, 1, none⟩) hX).trans haH.out.2.1, (hB3.out.cell (p := ⟨X, 2, none⟩) hX).trans haH.out.2.2.1⟩)
          have hS := hSb Ab Aa cb ca (w5.alloc (.cells #[.int .i64 Pb, .int .i64 Mb, .slice Ab mlb.length cb, .int .i64 Nb, .slice Rb nb kb] 27)).drew ((hrb.below hB3.out).more hB3.out.size).drew ((hra.below hB3.out).more hB3.out.size).drew
          clear hb3
          rw [fb.out] at hS
          replace hS := Lib.hid hS
          obtain ⟨q0, q1, q2, q3, q4⟩ := hbH.out
          have r0 := (hbw.cell (p := ⟨X, 5, none⟩) hX).trans q0
          have r1 := (hbw.cell (p := ⟨X, 6, none⟩) hX).trans q1
          have r2 := (hbw.cell (p := ⟨X, 7, none⟩) hX).trans q2
          have r3 := (hbw.cell (p := ⟨X, 8, none⟩) hX).trans q3
          have r4 := (hbw.cell (p := ⟨X, 9, none⟩) hX).trans q4
          clear q0 q1 q2 q3 q4
          go_wp2_with (fail)
          clear r0 r1 r2 r3 r4
          refine wp_region_held_drew (S := fun w' => (w'.cell? ⟨w5.heap.size, 0, none⟩ = some (.int .i64 Pb) ∧ w'.cell? ⟨w5.heap.size, 1, none⟩ = some (.int .i64 Mb) ∧ w'.cell? ⟨w5.heap.size, 2, none⟩ = some (.slice Ab mlb.length cb)) ∧ w'.cell? ⟨X, 0, none⟩ = some (.int .i64 Pa) ∧ w'.cell? ⟨X, 1, none⟩ = some (.int .i64 Ma) ∧ w'.cell? ⟨X, 2, none⟩ = some (.slice Aa mla.length ca)) (by kernel_rfl) (by (try dsimp only); exact kk.out) (fun hHeld => ?_)
          refine wpAnyH_take (i := 0) (oi := ⟨_, _, _, _, _, _⟩) (v := ?_) rfl (by kernel_rfl) (by kernel_rfl) (by kernel_rfl) (fun _ _ _ h => h) (Or.inl ⟨by rfl, ?_⟩) (by assumption) ?_
          rotate_left
          · intro w hSw; (try dsimp only at hSw); go_simp; try with_reducible rfl
          try simp only [Act.put, List.setIfInBounds_toArray, List.set_cons_zero, List.set_cons_succ]
          refine wpAnyH_take (i := 1) (oi := ⟨_, _, _, _, _, _⟩) (v := ?_) rfl (by kernel_rfl) (by kernel_rfl) (by kernel_rfl) (fun _ _ _ h => h) (Or.inl ⟨by rfl, ?_⟩) (by assumption) ?_
          rotate_left
          · intro w hSw; (try dsimp only at hSw); go_simp; try with_reducible rfl
          try simp only [Act.put, List.setIfInBounds_toArray, List.set_cons_zero, List.set_cons_succ]
          refine wpAnyH_take (i := 2) (oi := ⟨_, _, _, _, _, _⟩) (v := ?_) rfl (by kernel_rfl) (by kernel_rfl) (by kernel_rfl) (fun _ _ _ h => h) (Or.inl ⟨by rfl, ?_⟩) (by assumption) ?_
          rotate_left
          · intro w hSw; (try dsimp only at hSw); go_simp; try with_reducible rfl
          try simp only [Act.put, List.setIfInBounds_toArray, List.set_cons_zero, List.set_cons_succ]
          refine wpAnyH_take (i := 3) (oi := ⟨_, _, _, _, _, _⟩) (v := ?_) rfl (by kernel_rfl) (by kernel_rfl) (by kernel_rfl) (fun _ _ _ h => h) (Or.inl ⟨by rfl, ?_⟩) (by assumption) ?_
          rotate_left
          · intro w hSw; (try dsimp only at hSw); go_simp; try with_reducible rfl
          try simp only [Act.put, List.setIfInBounds_toArray, List.set_cons_zero, List.set_cons_succ]
          refine wpAnyH_take (i := 4) (oi := ⟨_, _, _, _, _, _⟩) (v := ?_) rfl (by kernel_rfl) (by kernel_rfl) (by kernel_rfl) (fun _ _ _ h => h) (Or.inl ⟨by rfl, ?_⟩) (by assumption) ?_
          rotate_left
          · intro w hSw; (try dsimp only at hSw); go_simp; try with_reducible rfl
          try simp only [Act.put, List.setIfInBounds_toArray, List.set_cons_zero, List.set_cons_succ]
          refine wpAnyH_take (i := 5) (oi := ⟨_, _, _, _, _, _⟩) (v := ?_) rfl (by kernel_rfl) (by kernel_rfl) (by kernel_rfl) (fun _ _ _ h => h) (Or.inl ⟨by rfl, ?_⟩) (by assumption) ?_
          rotate_left
          · intro w hSw; (try dsimp only at hSw); go_simp; try with_reducible rfl
          try simp only [Act.put, List.setIfInBounds_toArray, List.set_cons_zero, List.set_cons_succ]
          refine wpAnyH_ready (rs := [6]) (by kernel_rfl) (by simp) ?_
          refine AllReadyH.cons (o := ⟨_, _, _, _, _, _⟩) rfl (fun K hK => ?_) AllReadyH.nil
          go_simp
          go_at_call 87
          (with_reducible refine (hS).out.mono ?_)
          rintro e w4 ⟨rfl, hb4⟩
          go_wp2_with (fail)
          refine hK.out _ _ (by (try dsimp only); exact ⟨⟨(hb4.cell (p := ⟨w5.heap.size, 0, none⟩) hz5).trans kk.out.1.1, (hb4.cell (p := ⟨w5.heap.size, 1, none⟩) hz5).trans kk.out.1.2.1, (hb4.cell (p := ⟨w5.heap.size, 2, none⟩) hz5).trans kk.out.1.2.2⟩, (hb4.cell (p := ⟨X, 0, none⟩) (Nat.lt_trans hX5 hz5)).trans kk.out.2.1, (hb4.cell (p := ⟨X, 1, none⟩) (Nat.lt_trans hX5 hz5)).trans kk.out.2.2.1, (hb4.cell (p := ⟨X, 2, none⟩) (Nat.lt_trans hX5 hz5)).trans kk.out.2.2.2⟩) (fun hHeld => ?_)
          clear hK K
          try simp only [Act.put, List.setIfInBounds_toArray, List.set_cons_zero, List.set_cons_succ]
          refine wpAnyH_take (i := 7) (oi := ⟨_, _, _, _, _, _⟩) (v := ?_) rfl (by kernel_rfl) (by kernel_rfl) (by kernel_rfl) (fun _ _ _ h => h) (Or.inl ⟨by rfl, ?_⟩) (by assumption) ?_
          rotate_left
          · intro w hSw; (try dsimp only at hSw); go_simp; try with_reducible rfl
          try simp only [Act.put, List.setIfInBounds_toArray, List.set_cons_zero, List.set_cons_succ]
          refine wpAnyH_done (by kernel_rfl) ?_ _
          go_wp2_with (fail)
          go_ret
          exact ⟨rfl, hB3.out.drew.trans (hb4.mono hB3.out.size)⟩
set_option maxHeartbeats 4000000 in
theorem checked2_ok (Pa Ma Na : Int) (mla : List Int) (na : Nat) (rowsa : Nat → List Int) (Aa Ra : Option Addr) (ca ka : Nat) (Pb Mb Nb : Int) (mlb : List Int) (nb : Nat) (rowsb : Nat → List Int) (Ab Rb : Option Addr) (cb kb : Nat) (X : Nat) (w : World) (hPa : I64 Pa) (hMa : I64 Ma) (hla : mla.length ≤ maxLen) (hna : na ≤ 64) (hka : ∀ i, i < na → (rowsa i).length ≤ 4200) (hra : Rd w w.heap.size Aa mla) (hma : RdM w w.heap.size Ra na rowsa) (hPb : I64 Pb) (hMb : I64 Mb) (hlb : mlb.length ≤ maxLen) (hnb : nb ≤ 64) (hkb : ∀ i, i < nb → (rowsb i).length ≤ 4200) (hrb : Rd w w.heap.size Ab mlb) (hmb : RdM w w.heap.size Rb nb rowsb) (ea : cErr Pa Ma Na mla na rowsa = 0) (eb : cErr Pb Mb Nb mlb nb rowsb = 0) (fb : eqF Pb Mb mlb Pa Ma mla = true) (hX : X < w.heap.size) (ha0 : (w.cell? ⟨X, 0, none⟩ = some (.int .i64 Pa) ∧ w.cell? ⟨X, 1, none⟩ = some (.int .i64 Ma) ∧ w.cell? ⟨X, 2, none⟩ = some (.slice Aa mla.length ca) ∧ w.cell? ⟨X, 3, none⟩ = some (.int .i64 Na) ∧ w.cell? ⟨X, 4, none⟩ = some (.slice Ra na ka))) (hb0 : (w.cell? ⟨X, 5, none⟩ = some (.int .i64 Pb) ∧ w.cell? ⟨X, 6, none⟩ = some (.int .i64 Mb) ∧ w.cell? ⟨X, 7, none⟩ = some (.slice Ab mlb.length cb) ∧ w.cell? ⟨X, 8, none⟩ = some (.int .i64 Nb) ∧ w.cell? ⟨X, 9, none⟩ = some (.slice Rb nb kb))) :
    Calls Try.prog 42 #[.slice (some ⟨X, 0, none⟩) 2 2] w fun e w' => e = .returned (.int .i64 0) ∧ Below w.heap.size w w' := by
  have haH := Lib.hid ha0
  have hbH := Lib.hid hb0
  have hCa := fun W h1 h2 => cCheck_any Pa Ma Na mla na rowsa Aa Ra ca ka W hPa hMa hla hna hka h1 h2
  rw [ea] at hCa
  replace hCa := fun W h1 h2 => Lib.hid (hCa W h1 h2)
  have hCb := fun W h1 h2 => cCheck_any Pb Mb Nb mlb nb rowsb Ab Rb cb kb W hPb hMb hlb hnb hkb h1 h2
  rw [eb] at hCb
  replace hCb := fun W h1 h2 => Lib.hid (hCb W h1 h2)
  have hSb := fun Aa' Ab' c1 c2 W h1 h2 => fSame_any Pb Mb Pa Ma mlb mla Aa' Ab' c1 c2 W h1 h2 hlb
  clear ha0 hb0
  replace ea := Lib.hid ea
  replace eb := Lib.hid eb
  replace fb := Lib.hid fb
  go_enter Try.func42, Try.ntmps42
  go_wp2_with (fail)
  go_loopw [10, 4, 5] (fun i _ _ wr => ∃ k : Nat, k ≤ 2 ∧ i = .int .i64 k ∧ Below w.heap.size w wr) (fun i _ _ _ => 2 - (intOf i).toNat)
  case atStart => exact ⟨0, by omega, rfl, Below.refl _ _⟩
  case round =>
    obtain ⟨k, hk, rfl, hbw⟩ := hrel
    obtain ⟨w3, rfl⟩ : ∃ w3 : World, w3 = wr := ⟨_, rfl⟩
    rcases (by omega : k = 0 ∨ k = 1 ∨ k = 2) with rfl | rfl | rfl
    · have hb3 : Below w3.heap.size w3 (w3.alloc (.cells #[.int .i64 Pa, .int .i64 Ma, .slice Aa mla.length ca, .int .i64 Na, .slice Ra na ka] 27)) := (Below.refl _ _).alloc (Nat.le_refl _) _
      have hB3 := Lib.hid (hbw.trans (hb3.mono hbw.size))
      have hC := hCa _ ((hra.below hB3.out).more hB3.out.size) ((hma.below hB3.out).more hB3.out.size)
      clear hb3
      obtain ⟨q0, q1, q2, q3, q4⟩ := haH.out
      have r0 := (hbw.cell (p := ⟨X, 0, none⟩) hX).trans q0
      have r1 := (hbw.cell (p := ⟨X, 1, none⟩) hX).trans q1
      have r2 := (hbw.cell (p := ⟨X, 2, none⟩) hX).trans q2
      have r3 := (hbw.cell (p := ⟨X, 3, none⟩) hX).trans q3
      have r4 := (hbw.cell (p := ⟨X, 4, none⟩) hX).trans q4
      clear q0 q1 q2 q3 q4
      go_wp2_with (fail)
      (with_reducible refine hC.out.mono ?_)
      rintro e w4 ⟨rfl, hb4⟩
      clear r0 r1 r2 r3 r4
      go_wp2_with (fail)
      go_roundw
      case rel => exact ⟨1, by omega, by go_num, hB3.out.trans (hb4.mono hB3.out.size)⟩
      case measure => simp [intOf]
    · have hb3 : Below w3.heap.size w3 (w3.alloc (.cells #[.int .i64 Pb, .int .i64 Mb, .slice Ab mlb.length cb, .int .i64 Nb, .slice Rb nb kb] 27)) := (Below.refl _ _).alloc (Nat.le_refl _) _
      have hB3 := Lib.hid (hbw.trans (hb3.mono hbw.size))
      have hC := hCb _ ((hrb.below hB3.out).more hB3.out.size) ((hmb.below hB3.out).more hB3.out.size)
      clear hb3
      obtain ⟨q0, q1, q2, q3, q4⟩ := hbH.out
      have r0 := (hbw.cell (p := ⟨X, 5, none⟩) hX).trans q0
      have r1 := (hbw.cell (p := ⟨X, 6, none⟩) hX).trans q1
      have r2 := (hbw.cell (p := ⟨X, 7, none⟩) hX).trans q2
      have r3 := (hbw.cell (p := ⟨X, 8, none⟩) hX).trans q3
      have r4 := (hbw.cell (p := ⟨X, 9, none⟩) hX).trans q4
      clear q0 q1 q2 q3 q4
      go_wp2_with (fail)
      (with_reducible refine hC.out.mono ?_)
      rintro e w4 ⟨rfl, hb4⟩
      clear r0 r1 r2 r3 r4
      go_wp2_with (fail)
      go_roundw
      case rel => exact ⟨2, by omega, by go_num, hB3.out.trans (hb4.mono hB3.out.size)⟩
      case measure => simp [intOf]
    · rw [show ((2 : Nat) : Int) = 2 from rfl]
      go_wp2_with (fail)
      go_loopw [23, 7] (fun i _ wr => ∃ k : Nat, k ≤ 1 ∧ i = .int .i64 k ∧ Below w.heap.size w wr) (fun i _ _ => 1 - (intOf i).toNat)
      case atStart => exact ⟨0, by omega, rfl, hbw⟩
      case round =>
        clear hbw
        obtain ⟨k, hk, rfl, hbw⟩ := hrel
        obtain ⟨w5, rfl⟩ : ∃ w5 : World, w5 = wr := ⟨_, rfl⟩
        rcases (by omega : k = 0 ∨ k = 1) with rfl | rfl
        · have hb3 : Below w5.heap.size w5 (w5.alloc (.cells #[.int .i64 Pb, .int .i64 Mb, .slice Ab mlb.length cb, .int .i64 Nb, .slice Rb nb kb] 27)) := (Below.refl _ _).alloc (Nat.le_refl _) _
          have hB3 := Lib.hid (hbw.trans (hb3.mono hbw.size))
          have hX5 : X < w5.heap.size := Nat.lt_of_lt_of_le hX hbw.size
          have hz5 : w5.heap.size < (w5.alloc (.cells #[.int .i64 Pb, .int .i64 Mb, .slice Ab mlb.length cb, .int .i64 Nb, .slice Rb nb kb] 27)).heap.size := by simp
          have kk := Lib.hid (show ((w5.alloc (.cells #[.int .i64 Pb, .int .i64 Mb, .slice Ab mlb.length cb, .int .i64 Nb, .slice Rb nb kb] 27)).cell? ⟨w5.heap.size, 0, none⟩ = some (.int .i64 Pb) ∧ (w5.alloc (.cells #[.int .i64 Pb, .int .i64 Mb, .slice Ab mlb.length cb, .int .i64 Nb, .slice Rb nb kb] 27)).cell? ⟨w5.heap.size, 1, none⟩ = some (.int .i64 Mb) ∧ (w5.alloc (.cells #[.int .i64 Pb, .int .i64 Mb, .slice Ab mlb.length cb, .int .i64 Nb, .slice Rb nb kb] 27)).cell? ⟨w5.heap.size, 2, none⟩ = some (.slice Ab mlb.length cb)) ∧ (w5.alloc (.cells #[.int .i64 Pb, .int .i64 Mb, .slice Ab mlb.length cb, .int .i64 Nb, .slice Rb nb kb] 27)).cell? ⟨X, 0, none⟩ = some (.int .i64 Pa) ∧ (w5.alloc (.cells #[.int .i64 Pb, .int .i64 Mb, .slice Ab mlb.length cb, .int .i64 Nb, .slice Rb nb kb] 27)).cell? ⟨X, 1, none⟩ = some (.int .i64 Ma) ∧ (w5.alloc (.cells #[.int .i64 Pb, .int .i64 Mb, .slice Ab mlb.length cb, .int .i64 Nb, .slice Rb nb kb] 27)).cell? ⟨X, 2, none⟩ = some (.slice Aa mla.length ca) from ⟨by simp [go_sem], (hB3.out.cell (p := ⟨X, 0, none⟩) hX).trans haH.out.1, (hB3.out.cell (p := ⟨X, 1, none⟩) hX).trans haH.out.2.1, (hB3.out.cell (p := ⟨X, 2, none⟩) hX).trans haH.out.2.2.1⟩)
          have hS := hSb Ab Aa cb ca (w5.alloc (.cells #[.int .i64 Pb, .int .i64 Mb, .slice Ab mlb.length cb, .int .i64 Nb, .slice Rb nb kb] 27)).drew ((hrb.below hB3.out).more hB3.out.size).drew ((hra.below hB3.out).more hB3.out.size).drew
          clear hb3
          rw [fb.out] at hS
          replace hS := Lib.hid hS
          obtain ⟨q0, q1, q2, q3, q4⟩ := hbH.out
          have r0 := (hbw.cell (p := ⟨X, 5, none⟩) hX).trans q0
          have r1 := (hbw.cell (p := ⟨X, 6, none⟩) hX).trans q1
          have r2 := (hbw.cell (p := ⟨X, 7, none⟩) hX).trans q2
          have r3 := (hbw.cell (p := ⟨X, 8, none⟩) hX).trans q3
          have r4 := (hbw.cell (p := ⟨X, 9, none⟩) hX).trans q4
          clear q0 q1 q2 q3 q4
          go_wp2_with (fail)
          clear r0 r1 r2 r3 r4
          refine wp_region_held_drew (S := fun w' => (w'.cell? ⟨w5.heap.size, 0, none⟩ = some (.int .i64 Pb) ∧ w'.cell? ⟨w5.heap.size, 1, none⟩ = some (.int .i64 Mb) ∧ w'.cell? ⟨w5.heap.size, 2, none⟩ = some (.slice Ab mlb.length cb)) ∧ w'.cell? ⟨X, 0, none⟩ = some (.int .i64 Pa) ∧ w'.cell? ⟨X, 1, none⟩ = some (.int .i64 Ma) ∧ w'.cell? ⟨X, 2, none⟩ = some (.slice Aa mla.length ca)) (by kernel_rfl) (by (try dsimp only); exact kk.out) (fun hHeld => ?_)
          refine wpAnyH_take (i := 0) (oi := ⟨_, _, _, _, _, _⟩) (v := ?_) rfl (by kernel_rfl) (by kernel_rfl) (by kernel_rfl) (fun _ _ _ h => h) (Or.inl ⟨by rfl, ?_⟩) (by assumption) ?_
          rotate_left
          · intro w hSw; (try dsimp only at hSw); go_simp; try with_reducible rfl
          try simp only [Act.put, List.setIfInBounds_toArray, List.set_cons_zero, List.set_cons_succ]
          refine wpAnyH_take (i := 1) (oi := ⟨_, _, _, _, _, _⟩) (v := ?_) rfl (by kernel_rfl) (by kernel_rfl) (by kernel_rfl) (fun _ _ _ h => h) (Or.inl ⟨by rfl, ?_⟩) (by assumption) ?_
          rotate_left
          · intro w hSw; (try dsimp only at hSw); go_simp; try with_reducible rfl
          try simp only [Act.put, List.setIfInBounds_toArray, List.set_cons_zero, List.set_cons_succ]
          refine wpAnyH_take (i := 2) (oi := ⟨_, _, _, _, _, _⟩) (v := ?_) rfl (by kernel_rfl) (by kernel_rfl) (by kernel_rfl) (fun _ _ _ h => h) (Or.inl ⟨by rfl, ?_⟩) (by assumption) ?_
          rotate_left
          · intro w hSw; (try dsimp only at hSw); go_simp; try with_reducible rfl
          try simp only [Act.put, List.setIfInBounds_toArray, List.set_cons_zero, List.set_cons_succ]
          refine wpAnyH_take (i := 3) (oi := ⟨_, _, _, _, _, _⟩) (v := ?_) rfl (by kernel_rfl) (by kernel_rfl) (by kernel_rfl) (fun _ _ _ h => h) (Or.inl ⟨by rfl, ?_⟩) (by assumption) ?_
          rotate_left
          · intro w hSw; (try dsimp only at hSw); go_simp; try with_reducible rfl
          try simp only [Act.put, List.setIfInBounds_toArray, List.set_cons_zero, List.set_cons_succ]
          refine wpAnyH_take (i := 4) (oi := ⟨_, _, _, _, _, _⟩) (v := ?_) rfl (by kernel_rfl) (by kernel_rfl) (by kernel_rfl) (fun _ _ _ h => h) (Or.inl ⟨by rfl, ?_⟩) (by assumption) ?_
          rotate_left
          · intro w hSw; (try dsimp only at hSw); go_simp; try with_reducible rfl
          try simp only [Act.put, List.setIfInBounds_toArray, List.set_cons_zero, List.set_cons_succ]
          refine wpAnyH_take (i := 5) (oi := ⟨_, _, _, _, _, _⟩) (v := ?_) rfl (by kernel_rfl) (by kernel_rfl) (by kernel_rfl) (fun _ _ _ h => h) (Or.inl ⟨by rfl, ?_⟩) (by assumption) ?_
          rotate_left
          · intro w hSw; (try dsimp only at hSw); go_simp; try with_reducible rfl
          try simp only [Act.put, List.setIfInBounds_toArray, List.set_cons_zero, List.set_cons_succ]
          refine wpAnyH_ready (rs := [6]) (by kernel_rfl) (by simp) ?_
          refine AllReadyH.cons (o := ⟨_, _, _, _, _, _⟩) rfl (fun K hK => ?_) AllReadyH.nil
          go_simp
          go_at_call 87
          (with_reducible refine (hS).out.mono ?_)
          rintro e w4 ⟨rfl, hb4⟩
          go_wp2_with (fail)
          refine hK.out _ _ (by (try dsimp only); exact ⟨⟨(hb4.cell (p := ⟨w5.heap.size, 0, none⟩) hz5).trans kk.out.1.1, (hb4.cell (p := ⟨w5.heap.size, 1, none⟩) hz5).trans kk.out.1.2.1, (hb4.cell (p := ⟨w5.heap.size, 2, none⟩) hz5).trans kk.out.1.2.2⟩, (hb4.cell (p := ⟨X, 0, none⟩) (Nat.lt_trans hX5 hz5)).trans kk.out.2.1, (hb4.cell (p := ⟨X, 1, none⟩) (Nat.lt_trans hX5 hz5)).trans kk.out.2.2.1, (hb4.cell (p := ⟨X, 2, none⟩) (Nat.lt_trans hX5 hz5)).trans kk.out.2.2.2⟩) (fun hHeld => ?_)
          clear hK K
          try simp only [Act.put, List.setIfInBounds_toArray, List.set_cons_zero, List.set_cons_succ]
          refine wpAnyH_take (i := 7) (oi := ⟨_, _, _, _, _, _⟩) (v := ?_) rfl (by kernel_rfl) (by kernel_rfl) (by kernel_rfl) (fun _ _ _ h => h) (Or.inl ⟨by rfl, ?_⟩) (by assumption) ?_
          rotate_left
          · intro w hSw; (try dsimp only at hSw); go_simp; try with_reducible rfl
          try simp only [Act.put, List.setIfInBounds_toArray, List.set_cons_zero, List.set_cons_succ]
          refine wpAnyH_done (by kernel_rfl) ?_ _
          go_wp2_with (fail)
          go_roundw
          case rel => exact ⟨1, by omega, by go_num, hB3.out.drew.trans (hb4.mono hB3.out.size)⟩
          case measure => simp [intOf]
        · go_wp2_with (fail)
          go_ret
          exact ⟨rfl, hbw⟩

theorem checked2_any (Pa Ma Na : Int) (mla : List Int) (na : Nat) (rowsa : Nat → List Int) (Aa Ra : Option Addr) (ca ka : Nat) (Pb Mb Nb : Int) (mlb : List Int) (nb : Nat) (rowsb : Nat → List Int) (Ab Rb : Option Addr) (cb kb : Nat) (X : Nat) (w : World) (hPa : I64 Pa) (hMa : I64 Ma) (hla : mla.length ≤ maxLen) (hna : na ≤ 64) (hka : ∀ i, i < na → (rowsa i).length ≤ 4200) (hra : Rd w w.heap.size Aa mla) (hma : RdM w w.heap.size Ra na rowsa) (hPb : I64 Pb) (hMb : I64 Mb) (hlb : mlb.length ≤ maxLen) (hnb : nb ≤ 64) (hkb : ∀ i, i < nb → (rowsb i).length ≤ 4200) (hrb : Rd w w.heap.size Ab mlb) (hmb : RdM w w.heap.size Rb nb rowsb) (hX : X < w.heap.size) (ha0 : (w.cell? ⟨X, 0, none⟩ = some (.int .i64 Pa) ∧ w.cell? ⟨X, 1, none⟩ = some (.int .i64 Ma) ∧ w.cell? ⟨X, 2, none⟩ = some (.slice Aa mla.length ca) ∧ w.cell? ⟨X, 3, none⟩ = some (.int .i64 Na) ∧ w.cell? ⟨X, 4, none⟩ = some (.slice Ra na ka))) (hb0 : (w.cell? ⟨X, 5, none⟩ = some (.int .i64 Pb) ∧ w.cell? ⟨X, 6, none⟩ = some (.int .i64 Mb) ∧ w.cell? ⟨X, 7, none⟩ = some (.slice Ab mlb.length cb) ∧ w.cell? ⟨X, 8, none⟩ = some (.int .i64 Nb) ∧ w.cell? ⟨X, 9, none⟩ = some (.slice Rb nb kb))) :
    Calls Try.prog 42 #[.slice (some ⟨X, 0, none⟩) 2 2] w fun e w' => e = .returned (.int .i64 (twoE Pa Ma Na mla na rowsa Aa Ra ca ka Pb Mb Nb mlb nb rowsb Ab Rb cb kb)) ∧ Below w.heap.size w w' := by
  by_cases ea : cErr Pa Ma Na mla na rowsa = 0
  · by_cases eb : cErr Pb Mb Nb mlb nb rowsb = 0
    · cases hf : eqF Pa Ma mla Pb Mb mlb
      · rw [twoE_m ea eb hf]
        exact checked2_f1 Pa Ma Na mla na rowsa Aa Ra ca ka Pb Mb Nb mlb nb rowsb Ab Rb cb kb X w hPa hMa hla hna hka hra hma hPb hMb hlb hnb hkb hrb hmb ea eb (eqF_comm.trans hf) hX ha0 hb0
      · rw [twoE_ok ea eb hf]
        exact checked2_ok Pa Ma Na mla na rowsa Aa Ra ca ka Pb Mb Nb mlb nb rowsb Ab Rb cb kb X w hPa hMa hla hna hka hra hma hPb hMb hlb hnb hkb hrb hmb ea eb (eqF_comm.trans hf) hX ha0 hb0
    · rw [twoE_b ea eb]
      exact checked2_e1 Pa Ma Na mla na rowsa Aa Ra ca ka Pb Mb Nb mlb nb rowsb Ab Rb cb kb X w hPa hMa hla hna hka hra hma hPb hMb hlb hnb hkb hrb hmb ea rfl eb hX ha0 hb0
  · rw [twoE_a ea]
    exact checked2_e0 Pa Ma Na mla na rowsa Aa Ra ca ka Pb Mb Nb mlb nb rowsb Ab Rb cb kb X w hPa hMa hla hna hka hra hma hPb hMb hlb hnb hkb hrb hmb rfl ea hX ha0 hb0

set_option maxHeartbeats 2000000 in
theorem Two14_any (Pa Ma Na : Int) (mla : List Int) (na : Nat) (rowsa : Nat → List Int) (Aa Ra : Option Addr) (ca ka : Nat) (Pb Mb Nb : Int) (mlb : List Int) (nb : Nat) (rowsb : Nat → List Int) (Ab Rb : Option Addr) (cb kb : Nat) (w : World) (hPa : I64 Pa) (hMa : I64 Ma) (hla : mla.length ≤ maxLen) (hna : na ≤ 64) (hka : ∀ i, i < na → (rowsa i).length ≤ 4200) (hra : Rd w w.heap.size Aa mla) (hma : RdM w w.heap.size Ra na rowsa) (hPb : I64 Pb) (hMb : I64 Mb) (hlb : mlb.length ≤ maxLen) (hnb : nb ≤ 64) (hkb : ∀ i, i < nb → (rowsb i).length ≤ 4200) (hrb : Rd w w.heap.size Ab mlb) (hmb : RdM w w.heap.size Rb nb rowsb) :
    Calls Try.prog 9 #[.agg #[.int .i64 Pa, .int .i64 Ma, .slice Aa mla.length ca, .int .i64 Na, .slice Ra na ka], .agg #[.int .i64 Pb, .int .i64 Mb, .slice Ab mlb.length cb, .int .i64 Nb, .slice Rb nb kb]] w fun e w' => e = .returned (.int .i64 (twoE Pa Ma Na mla na rowsa Aa Ra ca ka Pb Mb Nb mlb nb rowsb Ab Rb cb kb)) ∧ Below w.heap.size w w' := by
  have hCa := fun W h1 h2 => Check12_any Pa Ma Na mla na rowsa Aa Ra ca ka W hPa hMa hla hna hka h1 h2
  have hCb := fun W h1 h2 => Check12_any Pb Mb Nb mlb nb rowsb Ab Rb cb kb W hPb hMb hlb hnb hkb h1 h2
  have hS := fun W h1 h2 => Same4_any Pa Ma Pb Mb mla mlb Aa Ab ca cb W h1 h2 hla
  obtain ⟨Z, hZ⟩ : ∃ Z, Z = (w.alloc (.cells #[.int .i64 Pa, .int .i64 Ma, .slice Aa mla.length ca, .int .i64 Na, .slice Ra na ka] 27)).alloc (.cells #[.int .i64 Pb, .int .i64 Mb, .slice Ab mlb.length cb, .int .i64 Nb, .slice Rb nb kb] 27) := ⟨_, rfl⟩
  have hB : Below w.heap.size w Z := by rw [hZ]; exact ((Below.refl _ _).alloc (Nat.le_refl _) _).alloc (by simp) _
  obtain ⟨s, hs⟩ : ∃ s, s = w.heap.size := ⟨_, rfl⟩
  have hZs : s + 1 < Z.heap.size := by rw [hZ, hs]; simp
  have f5 : Five Z s (.int .i64 Pa) (.int .i64 Ma) (.slice Aa mla.length ca) (.int .i64 Na) (.slice Ra na ka) := by
    rw [hZ, hs]
    exact (Five.new w _ _ _ _ _ 27).keep ((Below.refl _ _).alloc (Nat.le_refl _) _) (by simp)
  have g5 : Five Z (s + 1) (.int .i64 Pb) (.int .i64 Mb) (.slice Ab mlb.length cb) (.int .i64 Nb) (.slice Rb nb kb) := by
    rw [hZ, hs]
    have := Five.new (w.alloc (.cells #[.int .i64 Pa, .int .i64 Ma, .slice Aa mla.length ca, .int .i64 Na, .slice Ra na ka] 27)) (.int .i64 Pb) (.int .i64 Mb) (.slice Ab mlb.length cb) (.int .i64 Nb) (.slice Rb nb kb) 27
    rw [World.size_alloc] at this
    exact this
  have hCaZ := hCa Z ((hra.below hB).more hB.size) ((hma.below hB).more hB.size)
  replace f5 := Lib.hid f5
  replace g5 := Lib.hid g5
  replace hZ := Lib.hid hZ
  clear hCa
  by_cases ea : cErr Pa Ma Na mla na rowsa = 0
  · rw [ea] at hCaZ
    replace hCaZ := Lib.hid hCaZ
    by_cases eb : cErr Pb Mb Nb mlb nb rowsb = 0
    · rw [eb] at hCb
      replace hCb := fun W h1 h2 => Lib.hid (hCb W h1 h2)
      cases hf : eqF Pa Ma mla Pb Mb mlb
      all_goals
        rw [hf] at hS
        replace hS := fun W h1 h2 => Lib.hid (hS W h1 h2)
      · rw [twoE_m ea eb hf]
        clear ea eb hf hka hkb hPa hMa hla hPb hMb hlb
        obtain ⟨a0, a1, a2, a3, a4, -⟩ := f5.out
        go_enter Try.func9, Try.ntmps9
        go_wp2_with (fail)
        rw [← hZ.out]
        simp only [← hs]
        replace hs := Lib.hid hs
        (with_reducible refine hCaZ.out.mono ?_)
        rintro e w1 ⟨rfl, hb1⟩
        have hB1 := hB.trans (hb1.mono hB.size)
        have hs1 : s + 1 < w1.heap.size := Nat.lt_of_lt_of_le hZs hb1.size
        have f51 := Lib.hid (f5.out.keep hb1 (by omega))
        have g51 := Lib.hid (g5.out.keep hb1 hZs)
        clear a0 a1 a2 a3 a4
        obtain ⟨a0, a1, a2, a3, a4, -⟩ := g51.out
        go_wp2_with (fail)
        (with_reducible refine (hCb w1 ((hrb.below hB1).more hB1.size) ((hmb.below hB1).more hB1.size)).out.mono ?_)
        rintro e w2 ⟨rfl, hb2⟩
        have hB2 := hB1.trans (hb2.mono hB1.size)
        clear a0 a1 a2 a3 a4
        obtain ⟨a0, a1, a2, a3, a4, -⟩ := f51.out.keep hb2 (by omega)
        obtain ⟨c0, c1, c2, c3, c4, -⟩ := g51.out.keep hb2 hs1
        go_wp2_with (fail)
        (with_reducible refine (hS w2 ((hra.below hB2).more hB2.size) ((hrb.below hB2).more hB2.size)).out.mono ?_)
        rintro e w3 ⟨rfl, hb3⟩
        go_wp2_with (fail)
        go_ret
        exact ⟨rfl, hB2.trans (hb3.mono hB2.size)⟩
      · rw [twoE_ok ea eb hf]
        clear ea eb hf hka hkb hPa hMa hla hPb hMb hlb
        obtain ⟨a0, a1, a2, a3, a4, -⟩ := f5.out
        go_enter Try.func9, Try.ntmps9
        go_wp2_with (fail)
        rw [← hZ.out]
        simp only [← hs]
        replace hs := Lib.hid hs
        (with_reducible refine hCaZ.out.mono ?_)
        rintro e w1 ⟨rfl, hb1⟩
        have hB1 := hB.trans (hb1.mono hB.size)
        have hs1 : s + 1 < w1.heap.size := Nat.lt_of_lt_of_le hZs hb1.size
        have f51 := Lib.hid (f5.out.keep hb1 (by omega))
        have g51 := Lib.hid (g5.out.keep hb1 hZs)
        clear a0 a1 a2 a3 a4
        obtain ⟨a0, a1, a2, a3, a4, -⟩ := g51.out
        go_wp2_with (fail)
        (with_reducible refine (hCb w1 ((hrb.below hB1).more hB1.size) ((hmb.below hB1).more hB1.size)).out.mono ?_)
        rintro e w2 ⟨rfl, hb2⟩
        have hB2 := hB1.trans (hb2.mono hB1.size)
        clear a0 a1 a2 a3 a4
        obtain ⟨a0, a1, a2, a3, a4, -⟩ := f51.out.keep hb2 (by omega)
        obtain ⟨c0, c1, c2, c3, c4, -⟩ := g51.out.keep hb2 hs1
        go_wp2_with (fail)
        (with_reducible refine (hS w2 ((hra.below hB2).more hB2.size) ((hrb.below hB2).more hB2.size)).out.mono ?_)
        rintro e w3 ⟨rfl, hb3⟩
        go_wp2_with (fail)
        go_ret
        exact ⟨rfl, hB2.trans (hb3.mono hB2.size)⟩
    · rw [twoE_b ea eb]
      generalize cErr Pb Mb Nb mlb nb rowsb = E at *
      replace hCb := fun W h1 h2 => Lib.hid (hCb W h1 h2)
      have hEb : (E != 0) = true := by rw [bne_iff_ne]; exact eb
      have hEc : (E == 0) = false := by rw [beq_eq_false_iff_ne]; exact eb
      replace ea := Lib.hid ea
      replace eb := Lib.hid eb
      clear hS hka hkb hPa hMa hla hPb hMb hlb
      obtain ⟨a0, a1, a2, a3, a4, -⟩ := f5.out
      go_enter Try.func9, Try.ntmps9
      go_wp2_with (fail)
      rw [← hZ.out]
      simp only [← hs]
      replace hs := Lib.hid hs
      (with_reducible refine hCaZ.out.mono ?_)
      rintro e w1 ⟨rfl, hb1⟩
      have hB1 := hB.trans (hb1.mono hB.size)
      have hs1 : s + 1 < w1.heap.size := Nat.lt_of_lt_of_le hZs hb1.size
      have f51 := Lib.hid (f5.out.keep hb1 (by omega))
      have g51 := Lib.hid (g5.out.keep hb1 hZs)
      clear a0 a1 a2 a3 a4
      obtain ⟨a0, a1, a2, a3, a4, -⟩ := g51.out
      go_wp2_with (fail)
      (with_reducible refine (hCb w1 ((hrb.below hB1).more hB1.size) ((hmb.below hB1).more hB1.size)).out.mono ?_)
      rintro e w2 ⟨rfl, hb2⟩
      go_wp2_with (fail)
      go_ret
      exact ⟨rfl, hB1.trans (hb2.mono hB1.size)⟩
  · rw [twoE_a ea]
    generalize cErr Pa Ma Na mla na rowsa = E at *
    replace hCaZ := Lib.hid hCaZ
    have hEb : (E != 0) = true := by rw [bne_iff_ne]; exact ea
    have hEc : (E == 0) = false := by rw [beq_eq_false_iff_ne]; exact ea
    replace ea := Lib.hid ea
    clear hS hCb hka hkb hPa hMa hla hPb hMb hlb
    obtain ⟨a0, a1, a2, a3, a4, -⟩ := f5.out
    go_enter Try.func9, Try.ntmps9
    go_wp2_with (fail)
    rw [← hZ.out]
    (with_reducible refine hCaZ.out.mono ?_)
    rintro e w1 ⟨rfl, hb1⟩
    go_wp2_with (fail)
    go_ret
    exact ⟨rfl, hB.trans (hb1.mono hB.size)⟩
end Go.Proofs.Ytkmhopefnfaecaa
