/- CombineDistances: the walk. -/
import Derived.Test.YtghgbjgoedlnjaaT00
import Derived.Test.YtghgbjgoedlnjaaDsM
import Derived.Lib.MinMax
namespace Go.Proofs.Ytghgbjgoedlnjaa
open Go.RowKit Cw
attribute [local go_sem] Oper.semAt_some
attribute [local go_sem high] Go.Lib.run_min_ints
theorem pre1_below {w W : World} {ml : List Int} {n : Nat} {rows : Nat → List Int} {A Ar : Option Addr} (h1 : Rd w w.heap.size A ml) (h2 : RdM w w.heap.size Ar n rows) (hb : Below w.heap.size w W) : Pre1 ml n rows A Ar W := ⟨(h1.below hb).more hb.size, (h2.below hb).more hb.size⟩
theorem cells_two {W : World} {x y : Nat} {u0 u1 u2 u3 u4 v0 v1 v2 v3 v4 : Value} (fa : Five W x u0 u1 u2 u3 u4) (fb : Five W y v0 v1 v2 v3 v4) : W.cell? ⟨x, 0, none⟩ = some u0 ∧ W.cell? ⟨x, 1, none⟩ = some u1 ∧ W.cell? ⟨x, 2, none⟩ = some u2 ∧ W.cell? ⟨x, 3, none⟩ = some u3 ∧ W.cell? ⟨x, 4, none⟩ = some u4 ∧ W.cell? ⟨y, 0, none⟩ = some v0 ∧ W.cell? ⟨y, 1, none⟩ = some v1 ∧ W.cell? ⟨y, 2, none⟩ = some v2 ∧ W.cell? ⟨y, 3, none⟩ = some v3 ∧ W.cell? ⟨y, 4, none⟩ = some v4 := by
  obtain ⟨a0, a1, a2, a3, a4, -⟩ := fa
  obtain ⟨c0, c1, c2, c3, c4, -⟩ := fb
  exact ⟨a0, a1, a2, a3, a4, c0, c1, c2, c3, c4⟩

set_option maxRecDepth 100000 in
set_option maxHeartbeats 16000000 in
theorem distancesL (Pa Ma Na : Int) (mla : List Int) (na : Nat) (rowsa : Nat → List Int) (Aa Ra : Option Addr) (ca ka : Nat) (Pb Mb Nb : Int) (mlb : List Int) (nb : Nat) (rowsb : Nat → List Int) (Ab Rb : Option Addr) (cb kb : Nat) (x : Int) (w : World) (hPa : I64 Pa) (hMa : I64 Ma) (_hNa : I64 Na) (hla : mla.length ≤ maxLen) (hna : na ≤ maxLen) (hra : Rd w w.heap.size Aa mla) (hma : RdM w w.heap.size Ra na rowsa) (hPb : I64 Pb) (hMb : I64 Mb) (_hNb : I64 Nb) (hlb : mlb.length ≤ maxLen) (hnb : nb ≤ maxLen) (hrb : Rd w w.heap.size Ab mlb) (hmb : RdM w w.heap.size Rb nb rowsb) (_hx : I64 x) :
    Calls Try.prog 11 #[.agg #[.int .i64 Pa, .int .i64 Ma, .slice Aa mla.length ca, .int .i64 Na, .slice Ra na ka], .agg #[.int .i64 Pb, .int .i64 Mb, .slice Ab mlb.length cb, .int .i64 Nb, .slice Rb nb kb], .int .i64 x] w (LawEnd w) := by
  have hLa := rdm_len hma
  have hLb := rdm_len hmb
  obtain ⟨Z, hZ⟩ : ∃ Z, Z = (w.alloc (.cells #[.int .i64 Pa, .int .i64 Ma, .slice Aa mla.length ca, .int .i64 Na, .slice Ra na ka] 27)).alloc (.cells #[.int .i64 Pb, .int .i64 Mb, .slice Ab mlb.length cb, .int .i64 Nb, .slice Rb nb kb] 27) := ⟨_, rfl⟩
  have hB : Below w.heap.size w Z := by rw [hZ]; exact ((Below.refl _ _).alloc (Nat.le_refl _) _).alloc (by simp) _
  obtain ⟨s, hs⟩ : ∃ s, s = w.heap.size := ⟨_, rfl⟩
  obtain ⟨hZe, fa, fb⟩ := two_enter2 Pa Ma Na mla na rowsa Aa Ra ca ka Pb Mb Nb mlb nb rowsb Ab Rb cb kb w hZ hs
  have hb1 : Below Z.heap.size Z (Z.alloc (.cells #[.int .i64 Pa, .int .i64 Ma, .slice Aa mla.length ca, .int .i64 Na, .slice Ra na ka, .int .i64 Pb, .int .i64 Mb, .slice Ab mlb.length cb, .int .i64 Nb, .slice Rb nb kb] 27)) := (Below.refl _ _).alloc (Nat.le_refl _) _
  have hB1 := hB.trans (hb1.mono hB.size)
  have hF := few2_any Pa Ma Na mla na rowsa Aa Ra ca ka Pb Mb Nb mlb nb rowsb Ab Rb cb kb (s + 1 + 1) _ ((hma.below hB1).more hB1.size) ((hmb.below hB1).more hB1.size) ⟨hna, hLa⟩ ⟨hnb, hLb⟩ (by rw [World.size_alloc]; omega) (by rw [← hZe]; simp [go_sem]) (by rw [← hZe]; simp [go_sem])
  replace fa := Lib.hid fa
  replace fb := Lib.hid fb
  by_cases hf : fewAll2 na rowsa nb rowsb = true
  rotate_left
  · rw [show fewAll2 na rowsa nb rowsb = false from by simpa using hf] at hF
    replace hF := Lib.hid hF
    replace hZe := Lib.hid hZe
    replace hZ := Lib.hid hZ
    replace hf := Lib.hid hf
    clear hLa hLb
    unfold LawEnd
    go_enter Try.func11, Try.ntmps11
    go_wp2_with (fail)
    rw [← hZ.out]
    simp only [← hs]
    replace hs := Lib.hid hs
    (with_reducible refine hF.out.mono ?_)
    rintro e w1 ⟨rfl, hb2⟩
    go_wp2_with (fail)
    go_ret
    exact ⟨rfl, hB1.trans (hb2.mono hB1.size)⟩
  rw [hf] at hF
  replace hF := Lib.hid hF
  obtain ⟨hfa, hfb⟩ : fewC na rowsa = true ∧ fewC nb rowsb = true := by unfold fewAll2 at hf; simpa using hf
  obtain ⟨hna2, hka⟩ := fewC_le hfa
  obtain ⟨hnb2, hkb⟩ := fewC_le hfb
  obtain ⟨V, V2, E, ⟨hV1, hV6⟩, ⟨hW1, hW6⟩, hD, hD2, hT, hpack⟩ := dists_pack Pa Ma Na mla na rowsa Aa Ra ca ka Pb Mb Nb mlb nb rowsb Ab Rb cb kb x hPa hMa hla hna2 hka hPb hMb hlb hnb2 hkb
  unfold DisR CntR ResC at hpack
  replace hD := fun W h => Lib.hid (hD W h)
  replace hD2 := fun W h => Lib.hid (hD2 W h)
  replace hT := fun W h => Lib.hid (hT W h)
  have hm1 : IntKind.i64.wrap (V * V2) = V * V2 := by
    have h1 : V * V2 ≤ 64 * 64 ∧ -64 ≤ V * V2 := by
      rcases Int.lt_or_le V 0 with h | h
      · rw [show V = -1 by omega]; omega
      · rcases Int.lt_or_le V2 0 with h' | h'
        · rw [show V2 = -1 by omega]; omega
        · exact ⟨Int.mul_le_mul hV6 hW6 h' (by omega), Int.le_trans (by omega) (Int.mul_nonneg h h')⟩
    exact IntWalk.i64_in _ (by omega)
  have hm2 : IntKind.i64.wrap (2 * V) = 2 * V := IntWalk.i64_in _ (by omega)
  replace hm1 := Lib.hid hm1
  replace hm2 := Lib.hid hm2
  replace hpack := Lib.hid hpack
  replace hZe := Lib.hid hZe
  replace hZ := Lib.hid hZ
  replace hf := Lib.hid hf
  replace hfa := Lib.hid hfa
  replace hfb := Lib.hid hfb
  clear hLa hLb hka hkb
  unfold LawEnd
  go_enter Try.func11, Try.ntmps11
  go_wp2_with (fail)
  rw [← hZ.out]
  simp only [← hs]
  replace hs := Lib.hid hs
  (with_reducible refine hF.out.mono ?_)
  rintro e w1 ⟨rfl, hb2⟩
  have hbz := hb1.trans (hb2.mono hb1.size)
  have hBw := hB.trans (hbz.mono hB.size)
  have hsz : s + 1 < w1.heap.size := by have := hbz.size; have := hZe.out; omega
  have fa1 := Lib.hid (fa.out.keep hbz (by have := hZe.out; omega))
  have fb1 := Lib.hid (fb.out.keep hbz (by have := hZe.out; omega))
  replace hZe := Lib.hid hZe
  clear hF hb2 hb1 hB1 hbz
  go_wp2_with (fail)
  go_cut [7, 8] from 17 (fun va vb wx => va = .int .i64 V ∧ vb = .int .i64 V2 ∧ Below w1.heap.size w1 wx)
  case first =>
    have hBd := hBw.drew
    have hBr : Below w1.heap.size w1 w1.drew := (Below.refl _ _).drew
    have hsd : s + 1 < w1.drew.heap.size := hsz
    have fad := Lib.hid (fa1.out.keep hBr (by omega))
    have fbd := Lib.hid (fb1.out.keep hBr (by omega))
    have hcc := Lib.hid (cells_two fad.out fbd.out)
    refine wp_region_held_drew (S := fun w' => w'.cell? ⟨s, 0, none⟩ = some (.int .i64 Pa) ∧ w'.cell? ⟨s, 1, none⟩ = some (.int .i64 Ma) ∧ w'.cell? ⟨s, 2, none⟩ = some (.slice Aa mla.length ca) ∧ w'.cell? ⟨s, 3, none⟩ = some (.int .i64 Na) ∧ w'.cell? ⟨s, 4, none⟩ = some (.slice Ra na ka) ∧ w'.cell? ⟨s + 1, 0, none⟩ = some (.int .i64 Pb) ∧ w'.cell? ⟨s + 1, 1, none⟩ = some (.int .i64 Mb) ∧ w'.cell? ⟨s + 1, 2, none⟩ = some (.slice Ab mlb.length cb) ∧ w'.cell? ⟨s + 1, 3, none⟩ = some (.int .i64 Nb) ∧ w'.cell? ⟨s + 1, 4, none⟩ = some (.slice Rb nb kb)) (by kernel_rfl) (by (try dsimp only); exact hcc.out) (fun hHeld => ?_)
    refine wpAnyH_take (i := 0) (oi := ⟨_, _, _, _, _, _⟩) (v := ?_) rfl (by kernel_rfl) (by kernel_rfl) (by kernel_rfl) (fun _ _ _ h => h) (Or.inl ⟨by rfl, ?_⟩) (by assumption) ?_
    rotate_left
    · intro w hSw; (try dsimp only at hSw); go_simp; try with_reducible rfl
    try simp only [Act.put, List.setIfInBounds_toArray, List.set_cons_zero, List.set_cons_succ]
    refine wpAnyH_take (i := 2) (oi := ⟨_, _, _, _, _, _⟩) (v := ?_) rfl (by kernel_rfl) (by kernel_rfl) (by kernel_rfl) (fun _ _ _ h => h) (Or.inl ⟨by rfl, ?_⟩) (by assumption) ?_
    rotate_left
    · intro w hSw; (try dsimp only at hSw); go_simp; try with_reducible rfl
    try simp only [Act.put, List.setIfInBounds_toArray, List.set_cons_zero, List.set_cons_succ]
    refine wpAnyH_ready (rs := [1]) (by kernel_rfl) (by simp) ?_
    refine AllReadyH.cons (o := ⟨_, _, _, _, _, _⟩) rfl (fun K hK => ?_) AllReadyH.nil
    go_simp
    go_at_call 18
    (with_reducible refine ((hD _ (pre1_below hra hma hBd))).out.mono ?_)
    rintro e wa ⟨rfl, hbA⟩
    replace fad := Lib.hid (fad.out.keep hbA (by have := hsd; omega))
    replace fbd := Lib.hid (fbd.out.keep hbA (by have := hsd; omega))
    replace hsd := Nat.lt_of_lt_of_le hsd hbA.size
    replace hBd := hBd.trans (hbA.mono hBd.size)
    replace hBr := hBr.trans (hbA.mono hBr.size)
    clear hbA
    replace hcc := Lib.hid (cells_two fad.out fbd.out)
    go_wp2_with (fail)
    refine hK.out _ _ (by (try dsimp only); exact hcc.out) (fun hHeld => ?_)
    clear hK K
    try simp only [Act.put, List.setIfInBounds_toArray, List.set_cons_zero, List.set_cons_succ]
    refine wpAnyH_ready (rs := [3]) (by kernel_rfl) (by simp) ?_
    refine AllReadyH.cons (o := ⟨_, _, _, _, _, _⟩) rfl (fun K hK => ?_) AllReadyH.nil
    go_simp
    go_at_call 18
    (with_reducible refine ((hD2 _ (pre1_below hrb hmb hBd))).out.mono ?_)
    rintro e wb ⟨rfl, hbB⟩
    replace fad := Lib.hid (fad.out.keep hbB (by have := hsd; omega))
    replace fbd := Lib.hid (fbd.out.keep hbB (by have := hsd; omega))
    replace hsd := Nat.lt_of_lt_of_le hsd hbB.size
    replace hBd := hBd.trans (hbB.mono hBd.size)
    replace hBr := hBr.trans (hbB.mono hBr.size)
    clear hbB
    replace hcc := Lib.hid (cells_two fad.out fbd.out)
    go_wp2_with (fail)
    refine hK.out _ _ (by (try dsimp only); exact hcc.out) (fun hHeld => ?_)
    clear hK K
    try simp only [Act.put, List.setIfInBounds_toArray, List.set_cons_zero, List.set_cons_succ]
    refine wpAnyH_take (i := 4) (oi := ⟨_, _, _, _, _, _⟩) (v := ?_) rfl (by kernel_rfl) (by kernel_rfl) (by kernel_rfl) (fun _ _ _ h => h) (Or.inl ⟨by rfl, ?_⟩) (by assumption) ?_
    rotate_left
    · intro w hSw; (try dsimp only at hSw); go_simp; try with_reducible rfl
    try simp only [Act.put, List.setIfInBounds_toArray, List.set_cons_zero, List.set_cons_succ]
    refine wpAnyH_take (i := 5) (oi := ⟨_, _, _, _, _, _⟩) (v := ?_) rfl (by kernel_rfl) (by kernel_rfl) (by kernel_rfl) (fun _ _ _ h => h) (Or.inl ⟨by rfl, ?_⟩) (by assumption) ?_
    rotate_left
    · intro w hSw; (try dsimp only at hSw); go_simp; try with_reducible rfl
    try simp only [Act.put, List.setIfInBounds_toArray, List.set_cons_zero, List.set_cons_succ]
    refine wpAnyH_done (by kernel_rfl) ?_ _
    go_wp2_with (fail)
    go_meet
    exact ⟨rfl, rfl, hBr⟩
  case rest =>
    obtain ⟨rfl, rfl, hb⟩ := hcut
    obtain ⟨w2, rfl⟩ : ∃ w2 : World, w2 = wc := ⟨_, rfl⟩
    have fa2 := Lib.hid (fa1.out.keep hb (by first | omega | (simp; omega)))
    have fb2 := Lib.hid (fb1.out.keep hb (by first | omega | (simp; omega)))
    replace hBw := hBw.trans (hb.mono hBw.size)
    replace hsz : s + 1 < w2.heap.size := Nat.lt_of_lt_of_le hsz hb.size
    clear fa1 fb1
    by_cases hv : V < 1
    · have hvb : decide (V < 1) = true := decide_eq_true hv
      go_wp2_with (fail)
      go_ret
      exact ⟨rfl, hBw⟩
    · have hvb : decide (V < 1) = false := decide_eq_false hv
      by_cases hv2 : V2 < 1
      · have hv2b : decide (V2 < 1) = true := decide_eq_true hv2
        go_wp2_with (fail)
        go_ret
        exact ⟨rfl, hBw⟩
      · have hv2b : decide (V2 < 1) = false := decide_eq_false hv2
        obtain ⟨a0, a1, a2, a3, a4, -⟩ := fa2.out
        obtain ⟨c0, c1, c2, c3, c4, -⟩ := fb2.out
        have hq := hT w2 ⟨⟨(hra.below hBw).more hBw.size, (hma.below hBw).more hBw.size⟩, (hrb.below hBw).more hBw.size, (hmb.below hBw).more hBw.size⟩
        go_wp2_with (fail)
        (with_reducible refine hq.out.mono ?_)
        rintro e w3 ⟨rfl, hb⟩
        clear hq
        clear  a0 a1 a2 a3 a4 c0 c1 c2 c3 c4
        have fa3 := Lib.hid (fa2.out.keep hb (by first | omega | (simp; omega)))
        have fb3 := Lib.hid (fb2.out.keep hb (by first | omega | (simp; omega)))
        replace hBw := hBw.trans (hb.mono hBw.size)
        replace hsz : s + 1 < w3.heap.size := Nat.lt_of_lt_of_le hsz hb.size
        clear fa2 fb2
        by_cases hE0 : E = 0
        · replace hE0 : E = 0 := hE0
          have hEb : (E != 0) = false := by rw [hE0]; rfl
          by_cases hN8 : 8 < Na
          · have hN8b : decide (8 < Na) = true := decide_eq_true hN8
            obtain ⟨a0, a1, a2, a3, a4, -⟩ := fa3.out
            obtain ⟨c0, c1, c2, c3, c4, -⟩ := fb3.out
            go_wp2_with (fail)
            go_ret
            exact ⟨rfl, hBw⟩
          · have hN8b : decide (8 < Na) = false := decide_eq_false hN8
            by_cases hNb8 : 8 < Nb
            · have hNb8b : decide (8 < Nb) = true := decide_eq_true hNb8
              obtain ⟨a0, a1, a2, a3, a4, -⟩ := fa3.out
              obtain ⟨c0, c1, c2, c3, c4, -⟩ := fb3.out
              go_wp2_with (fail)
              go_ret
              exact ⟨rfl, hBw⟩
            · have hNb8b : decide (8 < Nb) = false := decide_eq_false hNb8
              obtain ⟨⟨P1, M1, N1, l1, n1, r1, hS, hSd⟩, ⟨P2, M2, N2, l2, n2, r2, K2, hP, hPc, hPd⟩, hplo, hint⟩ := hpack.out (by omega) (by omega) hE0 (by omega) (by omega)
              replace hS := fun W h => Lib.hid (hS W h)
              replace hP := fun W h => Lib.hid (hP W h)
              replace hSd := Lib.hid hSd
              replace hPc := Lib.hid hPc
              replace hPd := Lib.hid hPd
              replace hplo := Lib.hid hplo
              replace hint := Lib.hid hint
              clear hpack hD hD2 hT
              obtain ⟨a0, a1, a2, a3, a4, -⟩ := fa3.out
              obtain ⟨c0, c1, c2, c3, c4, -⟩ := fb3.out
              have hq := Lib.hid ((hS w3 ⟨⟨(hra.below hBw).more hBw.size, (hma.below hBw).more hBw.size⟩, (hrb.below hBw).more hBw.size, (hmb.below hBw).more hBw.size⟩).out)
              go_wp2_with (fail)
              (with_reducible refine hq.out.mono ?_)
              rintro e w4 ⟨A1, x1, R1, y1, rfl, hr1, -, hu1, hb⟩
              clear hq
              have hbb : Below w4.heap.size w4 (w4.alloc (.cells #[.int .i64 P1, .int .i64 M1, .slice A1 l1.length x1, .int .i64 N1, .slice R1 n1 y1] 27)) := (Below.refl _ _).alloc (Nat.le_refl _) _
              have hbc := hb.trans (hbb.mono hb.size)
              have u1 := Lib.hid (Five.new w4 (.int .i64 P1) (.int .i64 M1) (.slice A1 l1.length x1) (.int .i64 N1) (.slice R1 n1 y1) 27)
              have hd1 := (hu1.rdm.below hbb).more hbb.size
              replace hr1 := (hr1.below hbb).more hbb.size
              have hs1 : w4.heap.size < (w4.alloc (.cells #[.int .i64 P1, .int .i64 M1, .slice A1 l1.length x1, .int .i64 N1, .slice R1 n1 y1] 27)).heap.size := by simp
              clear  a0 a1 a2 a3 a4 c0 c1 c2 c3 c4
              have fa4 := Lib.hid (fa3.out.keep hbc (by first | omega | (simp; omega)))
              have fb4 := Lib.hid (fb3.out.keep hbc (by first | omega | (simp; omega)))
              replace hBw := hBw.trans (hbc.mono hBw.size)
              replace hsz : s + 1 < (w4.alloc (.cells #[.int .i64 P1, .int .i64 M1, .slice A1 l1.length x1, .int .i64 N1, .slice R1 n1 y1] 27)).heap.size := Nat.lt_of_lt_of_le hsz hbc.size
              clear fa3 fb3
              clear hbb hbc hu1 hb
              obtain ⟨a0, a1, a2, a3, a4, -⟩ := fa4.out
              obtain ⟨c0, c1, c2, c3, c4, -⟩ := fb4.out
              obtain ⟨d0, d1, d2, d3, d4, -⟩ := u1.out
              have hq := Lib.hid (hSd.out A1 x1 R1 y1 _ hr1 hd1)
              go_wp2_with (fail)
              (with_reducible refine hq.out.mono ?_)
              rintro e w5 ⟨rfl, hb⟩
              clear hq d0 d1 d2 d3 d4
              replace u1 := Lib.hid (u1.out.keep hb hs1)
              replace hr1 := (hr1.below hb).more hb.size
              replace hd1 := (hd1.below hb).more hb.size
              replace hs1 := Nat.lt_of_lt_of_le hs1 hb.size
              have fa5 := Lib.hid (fa4.out.keep hb (by first | omega | (simp; omega)))
              have fb5 := Lib.hid (fb4.out.keep hb (by first | omega | (simp; omega)))
              replace hBw := hBw.trans (hb.mono hBw.size)
              replace hsz : s + 1 < w5.heap.size := Nat.lt_of_lt_of_le hsz hb.size
              clear fa4 fb4
              clear  a0 a1 a2 a3 a4 c0 c1 c2 c3 c4
              obtain ⟨a0, a1, a2, a3, a4, -⟩ := fa5.out
              obtain ⟨c0, c1, c2, c3, c4, -⟩ := fb5.out
              have hq := Lib.hid ((hP w5 ⟨⟨(hra.below hBw).more hBw.size, (hma.below hBw).more hBw.size⟩, (hrb.below hBw).more hBw.size, (hmb.below hBw).more hBw.size⟩).out)
              go_wp2_with (fail)
              (with_reducible refine hq.out.mono ?_)
              rintro e w6 ⟨A2, x2, R2, y2, rfl, hr2, -, hu2, hb⟩
              clear hq
              have hbb : Below w6.heap.size w6 (w6.alloc (.cells #[.int .i64 P2, .int .i64 M2, .slice A2 l2.length x2, .int .i64 N2, .slice R2 n2 y2] 27)) := (Below.refl _ _).alloc (Nat.le_refl _) _
              have hbc := hb.trans (hbb.mono hb.size)
              have u2 := Lib.hid (Five.new w6 (.int .i64 P2) (.int .i64 M2) (.slice A2 l2.length x2) (.int .i64 N2) (.slice R2 n2 y2) 27)
              have hd2 := (hu2.rdm.below hbb).more hbb.size
              replace hr2 := (hr2.below hbb).more hbb.size
              have hs2 : w6.heap.size < (w6.alloc (.cells #[.int .i64 P2, .int .i64 M2, .slice A2 l2.length x2, .int .i64 N2, .slice R2 n2 y2] 27)).heap.size := by simp
              clear  a0 a1 a2 a3 a4 c0 c1 c2 c3 c4
              have fa6 := Lib.hid (fa5.out.keep hbc (by first | omega | (simp; omega)))
              have fb6 := Lib.hid (fb5.out.keep hbc (by first | omega | (simp; omega)))
              replace hBw := hBw.trans (hbc.mono hBw.size)
              replace hsz : s + 1 < (w6.alloc (.cells #[.int .i64 P2, .int .i64 M2, .slice A2 l2.length x2, .int .i64 N2, .slice R2 n2 y2] 27)).heap.size := Nat.lt_of_lt_of_le hsz hbc.size
              clear fa5 fb5
              clear hbb hbc hu2 hb
              obtain ⟨a0, a1, a2, a3, a4, -⟩ := fa6.out
              obtain ⟨c0, c1, c2, c3, c4, -⟩ := fb6.out
              obtain ⟨d0, d1, d2, d3, d4, -⟩ := u2.out
              have hq := Lib.hid (hPc.out A2 x2 R2 y2 _ hr2 hd2)
              go_wp2_with (fail)
              (with_reducible refine hq.out.mono ?_)
              rintro e w7 ⟨rfl, hb⟩
              clear hq d0 d1 d2 d3 d4
              replace u2 := Lib.hid (u2.out.keep hb hs2)
              replace hr2 := (hr2.below hb).more hb.size
              replace hd2 := (hd2.below hb).more hb.size
              replace hs2 := Nat.lt_of_lt_of_le hs2 hb.size
              have fa7 := Lib.hid (fa6.out.keep hb (by first | omega | (simp; omega)))
              have fb7 := Lib.hid (fb6.out.keep hb (by first | omega | (simp; omega)))
              replace hBw := hBw.trans (hb.mono hBw.size)
              replace hsz : s + 1 < w7.heap.size := Nat.lt_of_lt_of_le hsz hb.size
              clear fa6 fb6
              clear  a0 a1 a2 a3 a4 c0 c1 c2 c3 c4
              rcases hPd.out with hK | ⟨hK, hPD⟩
              · subst hK
                clear hPd
                clear hr1 hd1 hs1 u1 hr2 hd2 hs2 u2 hS hP hSd hPc
                by_cases hNN : Na = Nb
                · obtain rfl : Nb = Na := hNN.symm
                  obtain ⟨P3, M3, N3, l3, n3, r3, hU, hUd⟩ := hplo.out rfl
                  replace hU := fun W h => Lib.hid (hU W h)
                  replace hUd := Lib.hid hUd
                  clear hplo
                  obtain ⟨a0, a1, a2, a3, a4, -⟩ := fa7.out
                  obtain ⟨c0, c1, c2, c3, c4, -⟩ := fb7.out
                  have hq := Lib.hid ((hU w7 ⟨⟨(hra.below hBw).more hBw.size, (hma.below hBw).more hBw.size⟩, (hrb.below hBw).more hBw.size, (hmb.below hBw).more hBw.size⟩).out)
                  go_wp2_with (fail)
                  (with_reducible refine hq.out.mono ?_)
                  rintro e w8 ⟨A3, x3, R3, y3, rfl, hr3, -, hu3, hb⟩
                  clear hq
                  have hbb : Below w8.heap.size w8 (w8.alloc (.cells #[.int .i64 P3, .int .i64 M3, .slice A3 l3.length x3, .int .i64 N3, .slice R3 n3 y3] 27)) := (Below.refl _ _).alloc (Nat.le_refl _) _
                  have hbc := hb.trans (hbb.mono hb.size)
                  have u3 := Lib.hid (Five.new w8 (.int .i64 P3) (.int .i64 M3) (.slice A3 l3.length x3) (.int .i64 N3) (.slice R3 n3 y3) 27)
                  have hd3 := (hu3.rdm.below hbb).more hbb.size
                  replace hr3 := (hr3.below hbb).more hbb.size
                  have hs3 : w8.heap.size < (w8.alloc (.cells #[.int .i64 P3, .int .i64 M3, .slice A3 l3.length x3, .int .i64 N3, .slice R3 n3 y3] 27)).heap.size := by simp
                  clear  a0 a1 a2 a3 a4 c0 c1 c2 c3 c4
                  have fa8 := Lib.hid (fa7.out.keep hbc (by first | omega | (simp; omega)))
                  have fb8 := Lib.hid (fb7.out.keep hbc (by first | omega | (simp; omega)))
                  replace hBw := hBw.trans (hbc.mono hBw.size)
                  replace hsz : s + 1 < (w8.alloc (.cells #[.int .i64 P3, .int .i64 M3, .slice A3 l3.length x3, .int .i64 N3, .slice R3 n3 y3] 27)).heap.size := Nat.lt_of_lt_of_le hsz hbc.size
                  clear fa7 fb7
                  clear hbb hbc hu3 hb
                  obtain ⟨a0, a1, a2, a3, a4, -⟩ := fa8.out
                  obtain ⟨c0, c1, c2, c3, c4, -⟩ := fb8.out
                  have hm2o := hm2.out
                  obtain ⟨d0, d1, d2, d3, d4, -⟩ := u3.out
                  have hq := Lib.hid (hUd.out A3 x3 R3 y3 _ hr3 hd3)
                  go_wp2_with (fail)
                  (with_reducible refine hq.out.mono ?_)
                  rintro e w9 ⟨rfl, hb⟩
                  clear hq d0 d1 d2 d3 d4
                  replace u3 := Lib.hid (u3.out.keep hb hs3)
                  replace hr3 := (hr3.below hb).more hb.size
                  replace hd3 := (hd3.below hb).more hb.size
                  replace hs3 := Nat.lt_of_lt_of_le hs3 hb.size
                  have fa9 := Lib.hid (fa8.out.keep hb (by first | omega | (simp; omega)))
                  have fb9 := Lib.hid (fb8.out.keep hb (by first | omega | (simp; omega)))
                  replace hBw := hBw.trans (hb.mono hBw.size)
                  replace hsz : s + 1 < w9.heap.size := Nat.lt_of_lt_of_le hsz hb.size
                  clear fa8 fb8
                  clear  a0 a1 a2 a3 a4 c0 c1 c2 c3 c4
                  clear hr3 hd3 hs3 u3 hU hUd
                  by_cases hx1 : x < 1
                  · have hx1b : decide (x < 1) = true := decide_eq_true hx1
                    obtain ⟨a0, a1, a2, a3, a4, -⟩ := fa9.out
                    obtain ⟨c0, c1, c2, c3, c4, -⟩ := fb9.out
                    go_wp2_with (fail)
                    go_ret
                    exact ⟨rfl, hBw⟩
                  · have hx1b : decide (x < 1) = false := decide_eq_false hx1
                    by_cases hx3 : 3 < x
                    · have hx3b : decide (3 < x) = true := decide_eq_true hx3
                      obtain ⟨a0, a1, a2, a3, a4, -⟩ := fa9.out
                      obtain ⟨c0, c1, c2, c3, c4, -⟩ := fb9.out
                      go_wp2_with (fail)
                      go_ret
                      exact ⟨rfl, hBw⟩
                    · have hx3b : decide (3 < x) = false := decide_eq_false hx3
                      obtain ⟨P4, M4, N4, l4, n4, r4, K4, hI, hIc, hId⟩ := hint.out (by omega) (by omega)
                      replace hI := fun W h => Lib.hid (hI W h)
                      replace hIc := Lib.hid hIc
                      replace hId := Lib.hid hId
                      clear hint
                      obtain ⟨a0, a1, a2, a3, a4, -⟩ := fa9.out
                      obtain ⟨c0, c1, c2, c3, c4, -⟩ := fb9.out
                      have hq := Lib.hid ((hI w9 ⟨(hra.below hBw).more hBw.size, (hma.below hBw).more hBw.size⟩).out)
                      go_wp2_with (fail)
                      (with_reducible refine hq.out.mono ?_)
                      rintro e w10 ⟨A4, x4, R4, y4, rfl, hr4, -, hu4, hb⟩
                      clear hq
                      have hbb : Below w10.heap.size w10 (w10.alloc (.cells #[.int .i64 P4, .int .i64 M4, .slice A4 l4.length x4, .int .i64 N4, .slice R4 n4 y4] 27)) := (Below.refl _ _).alloc (Nat.le_refl _) _
                      have hbc := hb.trans (hbb.mono hb.size)
                      have u4 := Lib.hid (Five.new w10 (.int .i64 P4) (.int .i64 M4) (.slice A4 l4.length x4) (.int .i64 N4) (.slice R4 n4 y4) 27)
                      have hd4 := (hu4.rdm.below hbb).more hbb.size
                      replace hr4 := (hr4.below hbb).more hbb.size
                      have hs4 : w10.heap.size < (w10.alloc (.cells #[.int .i64 P4, .int .i64 M4, .slice A4 l4.length x4, .int .i64 N4, .slice R4 n4 y4] 27)).heap.size := by simp
                      clear  a0 a1 a2 a3 a4 c0 c1 c2 c3 c4
                      have fa10 := Lib.hid (fa9.out.keep hbc (by first | omega | (simp; omega)))
                      have fb10 := Lib.hid (fb9.out.keep hbc (by first | omega | (simp; omega)))
                      replace hBw := hBw.trans (hbc.mono hBw.size)
                      replace hsz : s + 1 < (w10.alloc (.cells #[.int .i64 P4, .int .i64 M4, .slice A4 l4.length x4, .int .i64 N4, .slice R4 n4 y4] 27)).heap.size := Nat.lt_of_lt_of_le hsz hbc.size
                      clear fa9 fb9
                      clear hbb hbc hu4 hb
                      obtain ⟨a0, a1, a2, a3, a4, -⟩ := fa10.out
                      obtain ⟨c0, c1, c2, c3, c4, -⟩ := fb10.out
                      obtain ⟨d0, d1, d2, d3, d4, -⟩ := u4.out
                      have hq := Lib.hid (hIc.out A4 x4 R4 y4 _ hr4 hd4)
                      go_wp2_with (fail)
                      (with_reducible refine hq.out.mono ?_)
                      rintro e w11 ⟨rfl, hb⟩
                      clear hq d0 d1 d2 d3 d4
                      replace u4 := Lib.hid (u4.out.keep hb hs4)
                      replace hr4 := (hr4.below hb).more hb.size
                      replace hd4 := (hd4.below hb).more hb.size
                      replace hs4 := Nat.lt_of_lt_of_le hs4 hb.size
                      have fa11 := Lib.hid (fa10.out.keep hb (by first | omega | (simp; omega)))
                      have fb11 := Lib.hid (fb10.out.keep hb (by first | omega | (simp; omega)))
                      replace hBw := hBw.trans (hb.mono hBw.size)
                      replace hsz : s + 1 < w11.heap.size := Nat.lt_of_lt_of_le hsz hb.size
                      clear fa10 fb10
                      rcases hId.out with hK | ⟨hK, hPD⟩
                      · subst hK
                        clear hId
                        clear  a0 a1 a2 a3 a4 c0 c1 c2 c3 c4
                        obtain ⟨a0, a1, a2, a3, a4, -⟩ := fa11.out
                        obtain ⟨c0, c1, c2, c3, c4, -⟩ := fb11.out
                        go_wp2_with (fail)
                        go_ret
                        exact ⟨rfl, hBw⟩
                      · have hKb : ¬ K4 = 0 := by omega
                        have hKc : decide (K4 = 0) = false := decide_eq_false hKb
                        replace hPD := Lib.hid hPD
                        clear hId
                        clear  a0 a1 a2 a3 a4 c0 c1 c2 c3 c4
                        obtain ⟨a0, a1, a2, a3, a4, -⟩ := fa11.out
                        obtain ⟨c0, c1, c2, c3, c4, -⟩ := fb11.out
                        obtain ⟨d0, d1, d2, d3, d4, -⟩ := u4.out
                        have hq := Lib.hid (hPD.out A4 x4 R4 y4 _ hr4 hd4)
                        go_wp2_with (fail)
                        (with_reducible refine hq.out.mono ?_)
                        rintro e w12 ⟨rfl, hb⟩
                        clear hq d0 d1 d2 d3 d4
                        replace u4 := Lib.hid (u4.out.keep hb hs4)
                        replace hr4 := (hr4.below hb).more hb.size
                        replace hd4 := (hd4.below hb).more hb.size
                        replace hs4 := Nat.lt_of_lt_of_le hs4 hb.size
                        have fa12 := Lib.hid (fa11.out.keep hb (by first | omega | (simp; omega)))
                        have fb12 := Lib.hid (fb11.out.keep hb (by first | omega | (simp; omega)))
                        replace hBw := hBw.trans (hb.mono hBw.size)
                        replace hsz : s + 1 < w12.heap.size := Nat.lt_of_lt_of_le hsz hb.size
                        clear fa11 fb11
                        clear  a0 a1 a2 a3 a4 c0 c1 c2 c3 c4
                        obtain ⟨a0, a1, a2, a3, a4, -⟩ := fa12.out
                        obtain ⟨c0, c1, c2, c3, c4, -⟩ := fb12.out
                        go_wp2_with (fail)
                        go_ret
                        exact ⟨rfl, hBw⟩
                · clear hplo
                  by_cases hx1 : x < 1
                  · have hx1b : decide (x < 1) = true := decide_eq_true hx1
                    obtain ⟨a0, a1, a2, a3, a4, -⟩ := fa7.out
                    obtain ⟨c0, c1, c2, c3, c4, -⟩ := fb7.out
                    go_wp2_with (fail)
                    go_ret
                    exact ⟨rfl, hBw⟩
                  · have hx1b : decide (x < 1) = false := decide_eq_false hx1
                    by_cases hx3 : 3 < x
                    · have hx3b : decide (3 < x) = true := decide_eq_true hx3
                      obtain ⟨a0, a1, a2, a3, a4, -⟩ := fa7.out
                      obtain ⟨c0, c1, c2, c3, c4, -⟩ := fb7.out
                      go_wp2_with (fail)
                      go_ret
                      exact ⟨rfl, hBw⟩
                    · have hx3b : decide (3 < x) = false := decide_eq_false hx3
                      obtain ⟨P4, M4, N4, l4, n4, r4, K4, hI, hIc, hId⟩ := hint.out (by omega) (by omega)
                      replace hI := fun W h => Lib.hid (hI W h)
                      replace hIc := Lib.hid hIc
                      replace hId := Lib.hid hId
                      clear hint
                      obtain ⟨a0, a1, a2, a3, a4, -⟩ := fa7.out
                      obtain ⟨c0, c1, c2, c3, c4, -⟩ := fb7.out
                      have hq := Lib.hid ((hI w7 ⟨(hra.below hBw).more hBw.size, (hma.below hBw).more hBw.size⟩).out)
                      go_wp2_with (fail)
                      (with_reducible refine hq.out.mono ?_)
                      rintro e w8 ⟨A4, x4, R4, y4, rfl, hr4, -, hu4, hb⟩
                      clear hq
                      have hbb : Below w8.heap.size w8 (w8.alloc (.cells #[.int .i64 P4, .int .i64 M4, .slice A4 l4.length x4, .int .i64 N4, .slice R4 n4 y4] 27)) := (Below.refl _ _).alloc (Nat.le_refl _) _
                      have hbc := hb.trans (hbb.mono hb.size)
                      have u4 := Lib.hid (Five.new w8 (.int .i64 P4) (.int .i64 M4) (.slice A4 l4.length x4) (.int .i64 N4) (.slice R4 n4 y4) 27)
                      have hd4 := (hu4.rdm.below hbb).more hbb.size
                      replace hr4 := (hr4.below hbb).more hbb.size
                      have hs4 : w8.heap.size < (w8.alloc (.cells #[.int .i64 P4, .int .i64 M4, .slice A4 l4.length x4, .int .i64 N4, .slice R4 n4 y4] 27)).heap.size := by simp
                      clear  a0 a1 a2 a3 a4 c0 c1 c2 c3 c4
                      have fa8 := Lib.hid (fa7.out.keep hbc (by first | omega | (simp; omega)))
                      have fb8 := Lib.hid (fb7.out.keep hbc (by first | omega | (simp; omega)))
                      replace hBw := hBw.trans (hbc.mono hBw.size)
                      replace hsz : s + 1 < (w8.alloc (.cells #[.int .i64 P4, .int .i64 M4, .slice A4 l4.length x4, .int .i64 N4, .slice R4 n4 y4] 27)).heap.size := Nat.lt_of_lt_of_le hsz hbc.size
                      clear fa7 fb7
                      clear hbb hbc hu4 hb
                      obtain ⟨a0, a1, a2, a3, a4, -⟩ := fa8.out
                      obtain ⟨c0, c1, c2, c3, c4, -⟩ := fb8.out
                      obtain ⟨d0, d1, d2, d3, d4, -⟩ := u4.out
                      have hq := Lib.hid (hIc.out A4 x4 R4 y4 _ hr4 hd4)
                      go_wp2_with (fail)
                      (with_reducible refine hq.out.mono ?_)
                      rintro e w9 ⟨rfl, hb⟩
                      clear hq d0 d1 d2 d3 d4
                      replace u4 := Lib.hid (u4.out.keep hb hs4)
                      replace hr4 := (hr4.below hb).more hb.size
                      replace hd4 := (hd4.below hb).more hb.size
                      replace hs4 := Nat.lt_of_lt_of_le hs4 hb.size
                      have fa9 := Lib.hid (fa8.out.keep hb (by first | omega | (simp; omega)))
                      have fb9 := Lib.hid (fb8.out.keep hb (by first | omega | (simp; omega)))
                      replace hBw := hBw.trans (hb.mono hBw.size)
                      replace hsz : s + 1 < w9.heap.size := Nat.lt_of_lt_of_le hsz hb.size
                      clear fa8 fb8
                      rcases hId.out with hK | ⟨hK, hPD⟩
                      · subst hK
                        clear hId
                        clear  a0 a1 a2 a3 a4 c0 c1 c2 c3 c4
                        obtain ⟨a0, a1, a2, a3, a4, -⟩ := fa9.out
                        obtain ⟨c0, c1, c2, c3, c4, -⟩ := fb9.out
                        go_wp2_with (fail)
                        go_ret
                        exact ⟨rfl, hBw⟩
                      · have hKb : ¬ K4 = 0 := by omega
                        have hKc : decide (K4 = 0) = false := decide_eq_false hKb
                        replace hPD := Lib.hid hPD
                        clear hId
                        clear  a0 a1 a2 a3 a4 c0 c1 c2 c3 c4
                        obtain ⟨a0, a1, a2, a3, a4, -⟩ := fa9.out
                        obtain ⟨c0, c1, c2, c3, c4, -⟩ := fb9.out
                        obtain ⟨d0, d1, d2, d3, d4, -⟩ := u4.out
                        have hq := Lib.hid (hPD.out A4 x4 R4 y4 _ hr4 hd4)
                        go_wp2_with (fail)
                        (with_reducible refine hq.out.mono ?_)
                        rintro e w10 ⟨rfl, hb⟩
                        clear hq d0 d1 d2 d3 d4
                        replace u4 := Lib.hid (u4.out.keep hb hs4)
                        replace hr4 := (hr4.below hb).more hb.size
                        replace hd4 := (hd4.below hb).more hb.size
                        replace hs4 := Nat.lt_of_lt_of_le hs4 hb.size
                        have fa10 := Lib.hid (fa9.out.keep hb (by first | omega | (simp; omega)))
                        have fb10 := Lib.hid (fb9.out.keep hb (by first | omega | (simp; omega)))
                        replace hBw := hBw.trans (hb.mono hBw.size)
                        replace hsz : s + 1 < w10.heap.size := Nat.lt_of_lt_of_le hsz hb.size
                        clear fa9 fb9
                        clear  a0 a1 a2 a3 a4 c0 c1 c2 c3 c4
                        obtain ⟨a0, a1, a2, a3, a4, -⟩ := fa10.out
                        obtain ⟨c0, c1, c2, c3, c4, -⟩ := fb10.out
                        go_wp2_with (fail)
                        go_ret
                        exact ⟨rfl, hBw⟩
              · have hKb : decide (0 < K2) = true := decide_eq_true hK
                replace hPD := Lib.hid hPD
                have hm1o := hm1.out
                clear hPd
                obtain ⟨a0, a1, a2, a3, a4, -⟩ := fa7.out
                obtain ⟨c0, c1, c2, c3, c4, -⟩ := fb7.out
                obtain ⟨d0, d1, d2, d3, d4, -⟩ := u2.out
                have hq := Lib.hid (hPD.out A2 x2 R2 y2 _ hr2 hd2)
                go_wp2_with (fail)
                (with_reducible refine hq.out.mono ?_)
                rintro e w8 ⟨rfl, hb⟩
                clear hq d0 d1 d2 d3 d4
                replace u2 := Lib.hid (u2.out.keep hb hs2)
                replace hr2 := (hr2.below hb).more hb.size
                replace hd2 := (hd2.below hb).more hb.size
                replace hs2 := Nat.lt_of_lt_of_le hs2 hb.size
                have fa8 := Lib.hid (fa7.out.keep hb (by first | omega | (simp; omega)))
                have fb8 := Lib.hid (fb7.out.keep hb (by first | omega | (simp; omega)))
                replace hBw := hBw.trans (hb.mono hBw.size)
                replace hsz : s + 1 < w8.heap.size := Nat.lt_of_lt_of_le hsz hb.size
                clear fa7 fb7
                clear  a0 a1 a2 a3 a4 c0 c1 c2 c3 c4
                clear hKb hPD
                clear hr1 hd1 hs1 u1 hr2 hd2 hs2 u2 hS hP hSd hPc
                by_cases hNN : Na = Nb
                · obtain rfl : Nb = Na := hNN.symm
                  obtain ⟨P3, M3, N3, l3, n3, r3, hU, hUd⟩ := hplo.out rfl
                  replace hU := fun W h => Lib.hid (hU W h)
                  replace hUd := Lib.hid hUd
                  clear hplo
                  obtain ⟨a0, a1, a2, a3, a4, -⟩ := fa8.out
                  obtain ⟨c0, c1, c2, c3, c4, -⟩ := fb8.out
                  have hq := Lib.hid ((hU w8 ⟨⟨(hra.below hBw).more hBw.size, (hma.below hBw).more hBw.size⟩, (hrb.below hBw).more hBw.size, (hmb.below hBw).more hBw.size⟩).out)
                  go_wp2_with (fail)
                  (with_reducible refine hq.out.mono ?_)
                  rintro e w9 ⟨A3, x3, R3, y3, rfl, hr3, -, hu3, hb⟩
                  clear hq
                  have hbb : Below w9.heap.size w9 (w9.alloc (.cells #[.int .i64 P3, .int .i64 M3, .slice A3 l3.length x3, .int .i64 N3, .slice R3 n3 y3] 27)) := (Below.refl _ _).alloc (Nat.le_refl _) _
                  have hbc := hb.trans (hbb.mono hb.size)
                  have u3 := Lib.hid (Five.new w9 (.int .i64 P3) (.int .i64 M3) (.slice A3 l3.length x3) (.int .i64 N3) (.slice R3 n3 y3) 27)
                  have hd3 := (hu3.rdm.below hbb).more hbb.size
                  replace hr3 := (hr3.below hbb).more hbb.size
                  have hs3 : w9.heap.size < (w9.alloc (.cells #[.int .i64 P3, .int .i64 M3, .slice A3 l3.length x3, .int .i64 N3, .slice R3 n3 y3] 27)).heap.size := by simp
                  clear  a0 a1 a2 a3 a4 c0 c1 c2 c3 c4
                  have fa9 := Lib.hid (fa8.out.keep hbc (by first | omega | (simp; omega)))
                  have fb9 := Lib.hid (fb8.out.keep hbc (by first | omega | (simp; omega)))
                  replace hBw := hBw.trans (hbc.mono hBw.size)
                  replace hsz : s + 1 < (w9.alloc (.cells #[.int .i64 P3, .int .i64 M3, .slice A3 l3.length x3, .int .i64 N3, .slice R3 n3 y3] 27)).heap.size := Nat.lt_of_lt_of_le hsz hbc.size
                  clear fa8 fb8
                  clear hbb hbc hu3 hb
                  obtain ⟨a0, a1, a2, a3, a4, -⟩ := fa9.out
                  obtain ⟨c0, c1, c2, c3, c4, -⟩ := fb9.out
                  have hm2o := hm2.out
                  obtain ⟨d0, d1, d2, d3, d4, -⟩ := u3.out
                  have hq := Lib.hid (hUd.out A3 x3 R3 y3 _ hr3 hd3)
                  go_wp2_with (fail)
                  (with_reducible refine hq.out.mono ?_)
                  rintro e w10 ⟨rfl, hb⟩
                  clear hq d0 d1 d2 d3 d4
                  replace u3 := Lib.hid (u3.out.keep hb hs3)
                  replace hr3 := (hr3.below hb).more hb.size
                  replace hd3 := (hd3.below hb).more hb.size
                  replace hs3 := Nat.lt_of_lt_of_le hs3 hb.size
                  have fa10 := Lib.hid (fa9.out.keep hb (by first | omega | (simp; omega)))
                  have fb10 := Lib.hid (fb9.out.keep hb (by first | omega | (simp; omega)))
                  replace hBw := hBw.trans (hb.mono hBw.size)
                  replace hsz : s + 1 < w10.heap.size := Nat.lt_of_lt_of_le hsz hb.size
                  clear fa9 fb9
                  clear  a0 a1 a2 a3 a4 c0 c1 c2 c3 c4
                  clear hr3 hd3 hs3 u3 hU hUd
                  by_cases hx1 : x < 1
                  · have hx1b : decide (x < 1) = true := decide_eq_true hx1
                    obtain ⟨a0, a1, a2, a3, a4, -⟩ := fa10.out
                    obtain ⟨c0, c1, c2, c3, c4, -⟩ := fb10.out
                    go_wp2_with (fail)
                    go_ret
                    exact ⟨rfl, hBw⟩
                  · have hx1b : decide (x < 1) = false := decide_eq_false hx1
                    by_cases hx3 : 3 < x
                    · have hx3b : decide (3 < x) = true := decide_eq_true hx3
                      obtain ⟨a0, a1, a2, a3, a4, -⟩ := fa10.out
                      obtain ⟨c0, c1, c2, c3, c4, -⟩ := fb10.out
                      go_wp2_with (fail)
                      go_ret
                      exact ⟨rfl, hBw⟩
                    · have hx3b : decide (3 < x) = false := decide_eq_false hx3
                      obtain ⟨P4, M4, N4, l4, n4, r4, K4, hI, hIc, hId⟩ := hint.out (by omega) (by omega)
                      replace hI := fun W h => Lib.hid (hI W h)
                      replace hIc := Lib.hid hIc
                      replace hId := Lib.hid hId
                      clear hint
                      obtain ⟨a0, a1, a2, a3, a4, -⟩ := fa10.out
                      obtain ⟨c0, c1, c2, c3, c4, -⟩ := fb10.out
                      have hq := Lib.hid ((hI w10 ⟨(hra.below hBw).more hBw.size, (hma.below hBw).more hBw.size⟩).out)
                      go_wp2_with (fail)
                      (with_reducible refine hq.out.mono ?_)
                      rintro e w11 ⟨A4, x4, R4, y4, rfl, hr4, -, hu4, hb⟩
                      clear hq
                      have hbb : Below w11.heap.size w11 (w11.alloc (.cells #[.int .i64 P4, .int .i64 M4, .slice A4 l4.length x4, .int .i64 N4, .slice R4 n4 y4] 27)) := (Below.refl _ _).alloc (Nat.le_refl _) _
                      have hbc := hb.trans (hbb.mono hb.size)
                      have u4 := Lib.hid (Five.new w11 (.int .i64 P4) (.int .i64 M4) (.slice A4 l4.length x4) (.int .i64 N4) (.slice R4 n4 y4) 27)
                      have hd4 := (hu4.rdm.below hbb).more hbb.size
                      replace hr4 := (hr4.below hbb).more hbb.size
                      have hs4 : w11.heap.size < (w11.alloc (.cells #[.int .i64 P4, .int .i64 M4, .slice A4 l4.length x4, .int .i64 N4, .slice R4 n4 y4] 27)).heap.size := by simp
                      clear  a0 a1 a2 a3 a4 c0 c1 c2 c3 c4
                      have fa11 := Lib.hid (fa10.out.keep hbc (by first | omega | (simp; omega)))
                      have fb11 := Lib.hid (fb10.out.keep hbc (by first | omega | (simp; omega)))
                      replace hBw := hBw.trans (hbc.mono hBw.size)
                      replace hsz : s + 1 < (w11.alloc (.cells #[.int .i64 P4, .int .i64 M4, .slice A4 l4.length x4, .int .i64 N4, .slice R4 n4 y4] 27)).heap.size := Nat.lt_of_lt_of_le hsz hbc.size
                      clear fa10 fb10
                      clear hbb hbc hu4 hb
                      obtain ⟨a0, a1, a2, a3, a4, -⟩ := fa11.out
                      obtain ⟨c0, c1, c2, c3, c4, -⟩ := fb11.out
                      obtain ⟨d0, d1, d2, d3, d4, -⟩ := u4.out
                      have hq := Lib.hid (hIc.out A4 x4 R4 y4 _ hr4 hd4)
                      go_wp2_with (fail)
                      (with_reducible refine hq.out.mono ?_)
                      rintro e w12 ⟨rfl, hb⟩
                      clear hq d0 d1 d2 d3 d4
                      replace u4 := Lib.hid (u4.out.keep hb hs4)
                      replace hr4 := (hr4.below hb).more hb.size
                      replace hd4 := (hd4.below hb).more hb.size
                      replace hs4 := Nat.lt_of_lt_of_le hs4 hb.size
                      have fa12 := Lib.hid (fa11.out.keep hb (by first | omega | (simp; omega)))
                      have fb12 := Lib.hid (fb11.out.keep hb (by first | omega | (simp; omega)))
                      replace hBw := hBw.trans (hb.mono hBw.size)
                      replace hsz : s + 1 < w12.heap.size := Nat.lt_of_lt_of_le hsz hb.size
                      clear fa11 fb11
                      rcases hId.out with hK | ⟨hK, hPD⟩
                      · subst hK
                        clear hId
                        clear  a0 a1 a2 a3 a4 c0 c1 c2 c3 c4
                        obtain ⟨a0, a1, a2, a3, a4, -⟩ := fa12.out
                        obtain ⟨c0, c1, c2, c3, c4, -⟩ := fb12.out
                        go_wp2_with (fail)
                        go_ret
                        exact ⟨rfl, hBw⟩
                      · have hKb : ¬ K4 = 0 := by omega
                        have hKc : decide (K4 = 0) = false := decide_eq_false hKb
                        replace hPD := Lib.hid hPD
                        clear hId
                        clear  a0 a1 a2 a3 a4 c0 c1 c2 c3 c4
                        obtain ⟨a0, a1, a2, a3, a4, -⟩ := fa12.out
                        obtain ⟨c0, c1, c2, c3, c4, -⟩ := fb12.out
                        obtain ⟨d0, d1, d2, d3, d4, -⟩ := u4.out
                        have hq := Lib.hid (hPD.out A4 x4 R4 y4 _ hr4 hd4)
                        go_wp2_with (fail)
                        (with_reducible refine hq.out.mono ?_)
                        rintro e w13 ⟨rfl, hb⟩
                        clear hq d0 d1 d2 d3 d4
                        replace u4 := Lib.hid (u4.out.keep hb hs4)
                        replace hr4 := (hr4.below hb).more hb.size
                        replace hd4 := (hd4.below hb).more hb.size
                        replace hs4 := Nat.lt_of_lt_of_le hs4 hb.size
                        have fa13 := Lib.hid (fa12.out.keep hb (by first | omega | (simp; omega)))
                        have fb13 := Lib.hid (fb12.out.keep hb (by first | omega | (simp; omega)))
                        replace hBw := hBw.trans (hb.mono hBw.size)
                        replace hsz : s + 1 < w13.heap.size := Nat.lt_of_lt_of_le hsz hb.size
                        clear fa12 fb12
                        clear  a0 a1 a2 a3 a4 c0 c1 c2 c3 c4
                        obtain ⟨a0, a1, a2, a3, a4, -⟩ := fa13.out
                        obtain ⟨c0, c1, c2, c3, c4, -⟩ := fb13.out
                        go_wp2_with (fail)
                        go_ret
                        exact ⟨rfl, hBw⟩
                · clear hplo
                  by_cases hx1 : x < 1
                  · have hx1b : decide (x < 1) = true := decide_eq_true hx1
                    obtain ⟨a0, a1, a2, a3, a4, -⟩ := fa8.out
                    obtain ⟨c0, c1, c2, c3, c4, -⟩ := fb8.out
                    go_wp2_with (fail)
                    go_ret
                    exact ⟨rfl, hBw⟩
                  · have hx1b : decide (x < 1) = false := decide_eq_false hx1
                    by_cases hx3 : 3 < x
                    · have hx3b : decide (3 < x) = true := decide_eq_true hx3
                      obtain ⟨a0, a1, a2, a3, a4, -⟩ := fa8.out
                      obtain ⟨c0, c1, c2, c3, c4, -⟩ := fb8.out
                      go_wp2_with (fail)
                      go_ret
                      exact ⟨rfl, hBw⟩
                    · have hx3b : decide (3 < x) = false := decide_eq_false hx3
                      obtain ⟨P4, M4, N4, l4, n4, r4, K4, hI, hIc, hId⟩ := hint.out (by omega) (by omega)
                      replace hI := fun W h => Lib.hid (hI W h)
                      replace hIc := Lib.hid hIc
                      replace hId := Lib.hid hId
                      clear hint
                      obtain ⟨a0, a1, a2, a3, a4, -⟩ := fa8.out
                      obtain ⟨c0, c1, c2, c3, c4, -⟩ := fb8.out
                      have hq := Lib.hid ((hI w8 ⟨(hra.below hBw).more hBw.size, (hma.below hBw).more hBw.size⟩).out)
                      go_wp2_with (fail)
                      (with_reducible refine hq.out.mono ?_)
                      rintro e w9 ⟨A4, x4, R4, y4, rfl, hr4, -, hu4, hb⟩
                      clear hq
                      have hbb : Below w9.heap.size w9 (w9.alloc (.cells #[.int .i64 P4, .int .i64 M4, .slice A4 l4.length x4, .int .i64 N4, .slice R4 n4 y4] 27)) := (Below.refl _ _).alloc (Nat.le_refl _) _
                      have hbc := hb.trans (hbb.mono hb.size)
                      have u4 := Lib.hid (Five.new w9 (.int .i64 P4) (.int .i64 M4) (.slice A4 l4.length x4) (.int .i64 N4) (.slice R4 n4 y4) 27)
                      have hd4 := (hu4.rdm.below hbb).more hbb.size
                      replace hr4 := (hr4.below hbb).more hbb.size
                      have hs4 : w9.heap.size < (w9.alloc (.cells #[.int .i64 P4, .int .i64 M4, .slice A4 l4.length x4, .int .i64 N4, .slice R4 n4 y4] 27)).heap.size := by simp
                      clear  a0 a1 a2 a3 a4 c0 c1 c2 c3 c4
                      have fa9 := Lib.hid (fa8.out.keep hbc (by first | omega | (simp; omega)))
                      have fb9 := Lib.hid (fb8.out.keep hbc (by first | omega | (simp; omega)))
                      replace hBw := hBw.trans (hbc.mono hBw.size)
                      replace hsz : s + 1 < (w9.alloc (.cells #[.int .i64 P4, .int .i64 M4, .slice A4 l4.length x4, .int .i64 N4, .slice R4 n4 y4] 27)).heap.size := Nat.lt_of_lt_of_le hsz hbc.size
                      clear fa8 fb8
                      clear hbb hbc hu4 hb
                      obtain ⟨a0, a1, a2, a3, a4, -⟩ := fa9.out
                      obtain ⟨c0, c1, c2, c3, c4, -⟩ := fb9.out
                      obtain ⟨d0, d1, d2, d3, d4, -⟩ := u4.out
                      have hq := Lib.hid (hIc.out A4 x4 R4 y4 _ hr4 hd4)
                      go_wp2_with (fail)
                      (with_reducible refine hq.out.mono ?_)
                      rintro e w10 ⟨rfl, hb⟩
                      clear hq d0 d1 d2 d3 d4
                      replace u4 := Lib.hid (u4.out.keep hb hs4)
                      replace hr4 := (hr4.below hb).more hb.size
                      replace hd4 := (hd4.below hb).more hb.size
                      replace hs4 := Nat.lt_of_lt_of_le hs4 hb.size
                      have fa10 := Lib.hid (fa9.out.keep hb (by first | omega | (simp; omega)))
                      have fb10 := Lib.hid (fb9.out.keep hb (by first | omega | (simp; omega)))
                      replace hBw := hBw.trans (hb.mono hBw.size)
                      replace hsz : s + 1 < w10.heap.size := Nat.lt_of_lt_of_le hsz hb.size
                      clear fa9 fb9
                      rcases hId.out with hK | ⟨hK, hPD⟩
                      · subst hK
                        clear hId
                        clear  a0 a1 a2 a3 a4 c0 c1 c2 c3 c4
                        obtain ⟨a0, a1, a2, a3, a4, -⟩ := fa10.out
                        obtain ⟨c0, c1, c2, c3, c4, -⟩ := fb10.out
                        go_wp2_with (fail)
                        go_ret
                        exact ⟨rfl, hBw⟩
                      · have hKb : ¬ K4 = 0 := by omega
                        have hKc : decide (K4 = 0) = false := decide_eq_false hKb
                        replace hPD := Lib.hid hPD
                        clear hId
                        clear  a0 a1 a2 a3 a4 c0 c1 c2 c3 c4
                        obtain ⟨a0, a1, a2, a3, a4, -⟩ := fa10.out
                        obtain ⟨c0, c1, c2, c3, c4, -⟩ := fb10.out
                        obtain ⟨d0, d1, d2, d3, d4, -⟩ := u4.out
                        have hq := Lib.hid (hPD.out A4 x4 R4 y4 _ hr4 hd4)
                        go_wp2_with (fail)
                        (with_reducible refine hq.out.mono ?_)
                        rintro e w11 ⟨rfl, hb⟩
                        clear hq d0 d1 d2 d3 d4
                        replace u4 := Lib.hid (u4.out.keep hb hs4)
                        replace hr4 := (hr4.below hb).more hb.size
                        replace hd4 := (hd4.below hb).more hb.size
                        replace hs4 := Nat.lt_of_lt_of_le hs4 hb.size
                        have fa11 := Lib.hid (fa10.out.keep hb (by first | omega | (simp; omega)))
                        have fb11 := Lib.hid (fb10.out.keep hb (by first | omega | (simp; omega)))
                        replace hBw := hBw.trans (hb.mono hBw.size)
                        replace hsz : s + 1 < w11.heap.size := Nat.lt_of_lt_of_le hsz hb.size
                        clear fa10 fb10
                        clear  a0 a1 a2 a3 a4 c0 c1 c2 c3 c4
                        obtain ⟨a0, a1, a2, a3, a4, -⟩ := fa11.out
                        obtain ⟨c0, c1, c2, c3, c4, -⟩ := fb11.out
                        go_wp2_with (fail)
                        go_ret
                        exact ⟨rfl, hBw⟩
        · have hEb : (E != 0) = true := by rw [bne_iff_ne]; exact hE0
          obtain ⟨a0, a1, a2, a3, a4, -⟩ := fa3.out
          obtain ⟨c0, c1, c2, c3, c4, -⟩ := fb3.out
          go_wp2_with (fail)
          go_ret
          exact ⟨rfl, hBw⟩
end Go.Proofs.Ytghgbjgoedlnjaa
