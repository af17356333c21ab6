/- The reference's polynomials: Mul. -/
import Derived.IntWalk
import Derived.Test.YtakonlfojblcmaaGreatZgGpoA
import Derived.Test.YtakonlfojblcmaaGreatZgTk
namespace Go.Proofs.YtakonlfojblcmaaGreat
open Go.RowKit Cw

def mulI (D : Desc) (p q : List Int) : List Int := canL (fun t => ci (conv (cfR D p) (cfR D q) t)) (p.length + q.length)
theorem cfR_mulI (D : Desc) (p q : List Int) : cfR D (mulI D p q) = conv (cfR D p) (cfR D q) :=
 cfR_can _ _ fun _ h => conv_high (fun _ h => cfR_out D h) (fun _ h => cfR_out D h) (by omega)
theorem canI_mulI {D : Desc} {p q : List Int} {N : Nat} {f : Nat → R D} (hN : N ≤ p.length + q.length) (hf : ∀ t, f t = conv (cfR D p) (cfR D q) t) (h0 : ∀ t, N ≤ t → f t = 0) : canI D (lst N fun t => ci (f t)) = mulI D p q := by
 unfold canI mulI;rw [lst_length, canL_congr (g := fun t => ci (conv (cfR D p) (cfR D q) t)) (fun i hi => by
  show ci (eli D ((lst N fun t => ci (f t))[i]?.getD 0)) = _
  rw [lst_get _ hi, eli_ci, hf])]
 exact (canL_more hN fun i hi _ => by rw [← hf, h0 i hi, ci_zero]).symm
theorem keep6c {B b b1 o1 b2 o2 : Nat} {W w1 : World} {v0 v1 v2 v3 v4 : Value} (hb : Below B W w1) (h2 : b < B) (h3 : b1 < B) (h5 : b2 < B) (h4 : W.cell? ⟨b, 0, none⟩ = some v0 ∧ W.cell? ⟨b, 1, none⟩ = some v1 ∧ W.cell? ⟨b, 2, none⟩ = some v2 ∧ W.cell? ⟨b1, o1, none⟩ = some v3 ∧ W.cell? ⟨b2, o2, none⟩ = some v4) :
  w1.cell? ⟨b, 0, none⟩ = some v0 ∧ w1.cell? ⟨b, 1, none⟩ = some v1 ∧ w1.cell? ⟨b, 2, none⟩ = some v2 ∧ w1.cell? ⟨b1, o1, none⟩ = some v3 ∧ w1.cell? ⟨b2, o2, none⟩ = some v4 :=
 have k := keep3 hb h2 ⟨h4.1, h4.2.1, h4.2.2.1⟩
 ⟨k.1, k.2.1, k.2.2, (hb.cell (p := ⟨b1, o1, none⟩) h3).trans h4.2.2.2.1, (hb.cell (p := ⟨b2, o2, none⟩) h5).trans h4.2.2.2.2⟩

set_option maxRecDepth 100000 in
set_option maxHeartbeats 4000000 in
theorem Mul5_any (D : Desc) (p q : List Int) (A A1 A2 : Option Addr) (c c1 c2 : Nat) (w : World) (hr : Rd w w.heap.size A (modL D)) (hr1 : Rd w w.heap.size A1 p) (hr2 : Rd w w.heap.size A2 q) (hl1 : p.length ≤ 20000) (hl2 : q.length ≤ 20000) :
  Calls Tryz.prog 39 #[.agg #[.int .i64 D.p, .int .i64 D.m, .slice A D.mod.length c], .slice A1 p.length c1, .slice A2 q.length c2] w (Gives w.heap.size (mulI D p q) w) := by
 have hC1 := fun W a => Lib.hid (Canon5_any D p A A1 c c1 W a (by omega))
 have hC2 := fun W a => Lib.hid (Canon5_any D q A A2 c c2 W a (by omega))
 have hM := fun y z W hr => Lib.hid (Mul_any D y z A c W hr)
 have hA := fun y z W => Lib.hid (Add_any D y z A D.mod.length c W)
 have hbx0 := Lib.hid (Bx.new w D A D.mod.length c 24);have hB0 : Below w.heap.size w (w.alloc (.cells #[.int .i64 D.p, .int .i64 D.m, .slice A D.mod.length c] 24)) := (Below.refl _ _).alloc (Nat.le_refl _) _;have hle1 := canI_le D p;have hle2 := canI_le D q;obtain ⟨P, hP⟩ : ∃ P, P = cfR D p := ⟨_, rfl⟩;obtain ⟨Q, hQ⟩ : ∃ Q, Q = cfR D q := ⟨_, rfl⟩;have hpP : ∀ i, eli D ((canI D p)[i]?.getD 0) = P i := fun i => by rw [hP, ← cfR_canI]; rfl
 have hqQ : ∀ i, eli D ((canI D q)[i]?.getD 0) = Q i := fun i => by rw [hQ, ← cfR_canI]; rfl
 have hP0 : ∀ t, (canI D p).length ≤ t → P t = 0 := fun t h => by rw [← hpP, List.getElem?_eq_none h]; exact eli_zero
 have hQ0 : ∀ t, (canI D q).length ≤ t → Q t = 0 := fun t h => by rw [← hqQ, List.getElem?_eq_none h]; exact eli_zero
 have hres : canI D (lst ((canI D p).length + (canI D q).length) fun t => ci (convP P Q (canI D p).length 0 t)) = mulI D p q :=
  canI_mulI (by omega) (fun t => by rw [convP_full _ _ hP0, hP, hQ]) (fun t h => by rw [convP_full _ _ hP0]; exact conv_high hP0 hQ0 (by omega))
 obtain ⟨p', hp'⟩ : ∃ p', p' = canI D p := ⟨_, rfl⟩;obtain ⟨q', hq'⟩ : ∃ q', q' = canI D q := ⟨_, rfl⟩;rw [← hp'] at hle1 hC1 hpP hP0 hres;rw [← hq'] at hle2 hC2 hqQ hQ0 hres;obtain ⟨N1, hN1⟩ : ∃ N1, N1 = p'.length := ⟨_, rfl⟩;obtain ⟨N2, hN2⟩ : ∃ N2, N2 = q'.length := ⟨_, rfl⟩;have hmk := mk_ints (N1 + N2) (by omega);rw [Int.natCast_add] at hmk;have hF := fun g W a => Lib.hid (Canon5_any D (lst (N1 + N2) fun t => ci (convP P Q N1 0 t)) A g c (N1 + N2) W a (by rw [lst_length]; omega))
 rw [lst_length, hN1, hN2, hres, ← hN1, ← hN2] at hF;unfold Gives at hC1 hC2;rw [← hN1] at hC1 hP0;rw [← hN2] at hC2 hQ0;have hNN : N1 + N2 ≤ 40000 := by omega
 replace hP := Lib.hid hP;replace hQ := Lib.hid hQ;replace hpP := Lib.hid hpP;replace hqQ := Lib.hid hqQ;replace hP0 := Lib.hid hP0;replace hQ0 := Lib.hid hQ0;replace hp' := Lib.hid hp';replace hq' := Lib.hid hq';replace hN1 := Lib.hid hN1;replace hN2 := Lib.hid hN2;clear hres hle1 hle2;go_enter Tryz.func39, Tryz.ntmps39;go_wp2_with (fail);(with_reducible refine (hC1 _ ((hr1.below hB0).more hB0.size)).out.mono ?_);rintro e w1 ⟨g1, rfl, hg1, hib1, hb1⟩;have hB1 := hB0.trans (hb1.mono hB0.size);have hs1 : w.heap.size < w1.heap.size := by have := hb1.size; simp only [World.size_alloc] at this; omega
 have hbx1 := Lib.hid (hbx0.out.below hb1 (by simp));obtain ⟨q0, q1, q2⟩ := hbx1.out.cells;go_wp2_with (fail);(with_reducible refine (hC2 _ ((hr2.below hB1).more hB1.size)).out.mono ?_);rintro e w2 ⟨g2, rfl, hg2, hib2, hb2⟩;have hB2 := hB1.trans (hb2.mono hB1.size);have hs2 : w.heap.size < w2.heap.size := Nat.lt_of_lt_of_le hs1 hb2.size;have hbx2 := hbx1.out.below hb2 hs1;have hg1l := hib1.lt;have hib12 := hib1.below hb2 hg1l;have hg1l2 := hib12.lt;have hg2l2 := hib2.lt;obtain ⟨g, hg⟩ : ∃ g, g = w2.heap.size := ⟨_, rfl⟩;obtain ⟨Y, hY⟩ : ∃ Y, Y = w2.alloc (.cells (Array.replicate (N1 + N2) (Value.int .i64 0)) 3) := ⟨_, rfl⟩;have hib : IB Y g (lst (N1 + N2) fun t => ci (convP P Q 0 0 t)) := by
  rw [hY, hg, lst_congr (g := fun _ => 0) (fun i _ => by rw [convP_zero, ci_zero]), ← lst_zero]; exact IB.newz w2 _
 have hbY : Below w2.heap.size w2 Y := by rw [hY]; exact (Below.refl _ _).alloc (Nat.le_refl _) _
 have hYs : g < Y.heap.size := by rw [hY, hg]; simp
 have hbxY := hbx2.below hbY hs2;have hBY := hB2.trans (hbY.mono hB2.size);have h1Y := hib12.below hbY hg1l2;have h2Y := hib2.below hbY hg2l2;have hgw : w.heap.size < g := by omega
 have hg1g : g1 < g := by omega
 have hg2g : g2 < g := by omega
 replace hY := Lib.hid hY;replace hg := Lib.hid hg;replace hib := Lib.hid hib;clear hib1 hib2 hib12 hbY hbx2 hbx1 hbx0 hb1 hb2 hC1 hC2 q0 q1 q2 hg1l hg1l2 hg2l2 hg1 hg2 hB1 hB2 hB0 hs1 hs2;go_wp2_with (fail);rw [← hY.out];simp only [← hg.out];go_loopw [8, 9] (fun i _ wr => ∃ k : Nat, k ≤ N1 ∧ i = .int .i64 k ∧ Hid (IB wr g (lst (N1 + N2) fun t => ci (convP P Q k 0 t))) ∧ Bx wr w.heap.size D A D.mod.length c ∧ IB wr g1 p' ∧ IB wr g2 q' ∧ Below w.heap.size w wr) (fun i _ _ => N1 - (intOf i).toNat)
 case atStart => exact ⟨0, by omega, rfl, hib, hbxY, h1Y, h2Y, hBY⟩
 case round =>
  clear hib hbxY h1Y h2Y hBY hYs hY;obtain ⟨wo, rfl⟩ : ∃ wo : World, wo = wr := ⟨_, rfl⟩;obtain ⟨i, hi, rfl, hib, hbx, hp1, hq1, hbw⟩ := hrel;by_cases hlt : i < N1
  ·have hi0 : (0 : Int) ≤ (i : Int) := by omega
   have hi1 : (i : Int) < (N1 : Int) := by omega
   go_wp2_with (fail);go_loopw [9] (fun j' wr => ∃ j : Nat, j ≤ N2 ∧ j' = .int .i64 j ∧ Hid (IB wr g (lst (N1 + N2) fun t => ci (convP P Q i j t))) ∧ Bx wr w.heap.size D A D.mod.length c ∧ IB wr g1 p' ∧ IB wr g2 q' ∧ Below w.heap.size w wr) (fun j' _ => N2 - (intOf j').toNat)
   case atStart => exact ⟨0, by omega, rfl, hib, hbx, hp1, hq1, hbw⟩
   case round =>
    clear hib hbx hp1 hq1 hbw;obtain ⟨wi, rfl⟩ : ∃ wi : World, wi = wr := ⟨_, rfl⟩;obtain ⟨j, hj, rfl, hib, hbx, hp1, hq1, hbw⟩ := hrel;by_cases hjl : j < N2
    ·have hj0 : (0 : Int) ≤ (j : Int) := by omega
     have hj1 : (j : Int) < (N2 : Int) := by omega
     have hx1 := hp1.cell (i := i) (by rw [← hN1.out]; exact hlt);have hx2 := hq1.cell (i := j) (by rw [← hN2.out]; exact hjl);have hx3 := hib.out.cell (i := i + j) (by rw [lst_length]; omega);rw [lst_get _ (by omega : i + j < N1 + N2)] at hx3;have hgl := hib.out.lt;have hg1l := hp1.lt;have hg2l := hq1.lt;have hwl : w.heap.size < wi.heap.size := by omega
     obtain ⟨y1, hy1⟩ : ∃ y1, y1 = p'[i]?.getD 0 := ⟨_, rfl⟩;obtain ⟨y2, hy2⟩ : ∃ y2, y2 = q'[j]?.getD 0 := ⟨_, rfl⟩;obtain ⟨y3, hy3⟩ : ∃ y3, y3 = ci (convP P Q i j (i + j)) := ⟨_, rfl⟩;obtain ⟨y4, hy4⟩ : ∃ y4, y4 = ci (convP P Q i (j + 1) (i + j)) := ⟨_, rfl⟩;rw [← hy1] at hx1;rw [← hy2] at hx2;rw [← hy3] at hx3;have hM2 := fun W a => hM y1 y2 W a
     have hA2 := fun W => (hA y3 (ci (eli D y1 * eli D y2)) W).out
     have he4 : ci (eli D y3 + eli D (ci (eli D y1 * eli D y2))) = y4 := by
      rw [eli_ci, hy3, eli_ci, hy1, hy2, hpP.out, hqQ.out, hy4, convP_step]
     rw [he4] at hA2;replace hA2 := fun W => Lib.hid (hA2 W)
     have hnew : (lst (N1 + N2) fun t => ci (convP P Q i j t)).set (i + j) y4 = lst (N1 + N2) fun t => ci (convP P Q i (j + 1) t) := by
      rw [lst_set];refine lst_congr fun t _ => ?_
      by_cases e : t = i + j
      ·rw [if_pos e, e, hy4]
      ·rw [if_neg e, convP_other _ _ e]
     have hset := fun W (h : IB W g _) => hnew ▸ h.set_ (i + j) y4
     replace hset := Lib.hid hset;have hw1 : IntKind.i64.wrap ((i : Int) + (j : Int)) = (i : Int) + (j : Int) := IntWalk.i64_in _ (by omega);have hw2 : (0 : Int) ≤ (i : Int) + (j : Int) := by omega
     have hw3 : (i : Int) + (j : Int) < (N1 : Int) + (N2 : Int) := by omega
     have hw4 : ((i : Int) + (j : Int)).toNat = i + j := by omega
     have hcc := Lib.hid (show _ ∧ _ ∧ _ ∧ _ ∧ _ from ⟨hbx.cells.1, hbx.cells.2.1, hbx.cells.2.2, hx1, hx2⟩);have hM3 := hM2 wi.drew ((hr.below hbw).more hbw.size).drew;replace hy1 := Lib.hid hy1;replace hy2 := Lib.hid hy2;replace hy3 := Lib.hid hy3;replace hy4 := Lib.hid hy4;have hkl : Hid (i + j < (lst (N1 + N2) fun t => ci (convP P Q i j t)).length) := by unfold Hid; rw [lst_length]; omega
     clear hx1 hx2 hbx he4 hnew hM2;go_wp2_with (fail);refine wp_region_held_drew (S := fun w' => w'.cell? ⟨w.heap.size, 0, none⟩ = some (.int .i64 D.p) ∧ w'.cell? ⟨w.heap.size, 1, none⟩ = some (.int .i64 D.m) ∧ w'.cell? ⟨w.heap.size, 2, none⟩ = some (.slice A D.mod.length c) ∧ w'.cell? ⟨g1, i, none⟩ = some (.int .i64 y1) ∧ w'.cell? ⟨g2, j, none⟩ = some (.int .i64 y2)) (by kernel_rfl) (by (try dsimp only); exact hcc.out) (fun hHeld => ?_);refine tk 0 ?_; try simp only [pS]
     refine tk 1 ?_; try simp only [pS]
     refine tk 2 ?_; try simp only [pS]
     refine tk 3 ?_; try simp only [pS]
     refine tk 4 ?_; try simp only [pS]
     refine tk 5 ?_; try simp only [pS]
     refine tk 6 ?_; try simp only [pS]
     refine tk 7 ?_; try simp only [pS]
     refine tk 8 ?_; try simp only [pS]
     refine tk 9 ?_; try simp only [pS]
     refine tk 11 ?_; try simp only [pS]
     refine tk 12 ?_; try simp only [pS]
     refine tk 13 ?_; try simp only [pS]
     refine tk 14 ?_; try simp only [pS]
     refine tk 15 ?_; try simp only [pS]
     refine tk 16 ?_; try simp only [pS]
     refine tk 17 ?_; try simp only [pS]
     refine tk 18 ?_; try simp only [pS]
     refine tk 19 ?_; try simp only [pS]
     refine wpAnyH_ready (rs := [10, 20]) (by kernel_rfl) (by simp) ?_;refine AllReadyH.cons (o := ⟨_, _, _, _, _, _⟩) rfl (fun K hK => ?_) ?_
     ·go_simp;refine hK.out _ _ (by (try dsimp only); first | exact hccM.out | exact hcc.out) (fun hHeld => ?_);clear hK K;try simp only [pS]
      refine rd 20 fun K hK => ?_
      go_simp;go_at_call 52;(with_reducible refine (hM3).out.mono ?_);rintro e w4 ⟨rfl, hb4⟩;have hccM := Lib.hid (keep6c hb4 hwl hg1l hg2l hcc.out);have hx4 := (hb4.cell (p := ⟨g, i + j, none⟩) hgl).trans hx3;go_wp2_with (fail);refine hK.out _ _ (by (try dsimp only); exact hccM.out) (fun hHeld => ?_);clear hK K;try simp only [pS]
      have hs4 : wi.heap.size ≤ w4.heap.size := hb4.size;refine rd 21 fun K hK => ?_
      go_simp;go_at_call 113;(with_reducible refine (hA2 w4).out.mono ?_);rintro e w5 ⟨rfl, hb5⟩;have hccA := Lib.hid (keep6c hb5 (Nat.lt_of_lt_of_le hwl hs4) (Nat.lt_of_lt_of_le hg1l hs4) (Nat.lt_of_lt_of_le hg2l hs4) hccM.out);go_wp2_with (fail);refine hK.out _ _ (by (try dsimp only); exact hccA.out) (fun hHeld => ?_);clear hK K;try simp only [pS]
      have hib5 := (hib.out.drew.below hb4 hgl).below hb5 (Nat.lt_of_lt_of_le hgl hs4);have hcW := hib5.cell hkl.out;have hfW := hib5.frozen (i + j);refine tk 22 ?_; try simp only [pS]
      refine rd 23 fun K hK => ?_
      go_simp;refine hK.out _ _ (by (try dsimp only); exact keep6c (B := g) ((Below.refl _ _).setCell (p := ⟨g, i + j, none⟩) (Nat.le_refl _) _) hgw hg1g hg2g hccA.out) (fun hHeld => ?_);clear hK K;try simp only [pS]
      refine wpAnyH_done (by kernel_rfl) ?_ _;have kk := keep6c (B := g) ((Below.refl _ _).setCell (p := ⟨g, i + j, none⟩) (Nat.le_refl _) (.int .i64 y4)) hgw hg1g hg2g hccA.out;have hb45 := hb4.trans (hb5.mono hb4.size);have hp5 := Lib.hid ((hp1.drew.below hb45 hg1l).far (p := ⟨g, i + j, none⟩) (Nat.ne_of_lt hg1g) (.int .i64 y4));have hq5 := Lib.hid ((hq1.drew.below hb45 hg2l).far (p := ⟨g, i + j, none⟩) (Nat.ne_of_lt hg2g) (.int .i64 y4));have hB5 := Lib.hid ((hbw.drew.trans (hb45.mono hbw.size)).setCell (p := ⟨g, i + j, none⟩) (Nat.le_of_lt hgw) (.int .i64 y4));have hI5 := Lib.hid (hset.out _ hib5);replace kk := Lib.hid kk;clear hcW hfW hx3 hx4 hw4;go_wp2_with (fail);go_roundw
      case rel => exact ⟨j + 1, by omega, by go_num, hI5, ⟨kk.out.1, kk.out.2.1, kk.out.2.2.1⟩, hp5.out, hq5.out, hB5.out⟩
      case measure => simp [intOf]; omega
     refine AllReadyH.cons (o := ⟨_, _, _, _, _, _⟩) rfl (fun K hK => ?_) AllReadyH.nil;go_simp;go_at_call 52;(with_reducible refine (hM3).out.mono ?_);rintro e w4 ⟨rfl, hb4⟩;have hccM := Lib.hid (keep6c hb4 hwl hg1l hg2l hcc.out);have hx4 := (hb4.cell (p := ⟨g, i + j, none⟩) hgl).trans hx3;go_wp2_with (fail);refine hK.out _ _ (by (try dsimp only); exact hccM.out) (fun hHeld => ?_);clear hK K;try simp only [pS]
     refine rd 10 fun K hK => ?_
     go_simp;refine hK.out _ _ (by (try dsimp only); first | exact hccM.out | exact hcc.out) (fun hHeld => ?_);clear hK K;try simp only [pS]
     have hs4 : wi.heap.size ≤ w4.heap.size := hb4.size;refine rd 21 fun K hK => ?_
     go_simp;go_at_call 113;(with_reducible refine (hA2 w4).out.mono ?_);rintro e w5 ⟨rfl, hb5⟩;have hccA := Lib.hid (keep6c hb5 (Nat.lt_of_lt_of_le hwl hs4) (Nat.lt_of_lt_of_le hg1l hs4) (Nat.lt_of_lt_of_le hg2l hs4) hccM.out);go_wp2_with (fail);refine hK.out _ _ (by (try dsimp only); exact hccA.out) (fun hHeld => ?_);clear hK K;try simp only [pS]
     have hib5 := (hib.out.drew.below hb4 hgl).below hb5 (Nat.lt_of_lt_of_le hgl hs4);have hcW := hib5.cell hkl.out;have hfW := hib5.frozen (i + j);refine tk 22 ?_; try simp only [pS]
     refine rd 23 fun K hK => ?_
     go_simp;refine hK.out _ _ (by (try dsimp only); exact keep6c (B := g) ((Below.refl _ _).setCell (p := ⟨g, i + j, none⟩) (Nat.le_refl _) _) hgw hg1g hg2g hccA.out) (fun hHeld => ?_);clear hK K;try simp only [pS]
     refine wpAnyH_done (by kernel_rfl) ?_ _;have kk := keep6c (B := g) ((Below.refl _ _).setCell (p := ⟨g, i + j, none⟩) (Nat.le_refl _) (.int .i64 y4)) hgw hg1g hg2g hccA.out;have hb45 := hb4.trans (hb5.mono hb4.size);have hp5 := Lib.hid ((hp1.drew.below hb45 hg1l).far (p := ⟨g, i + j, none⟩) (Nat.ne_of_lt hg1g) (.int .i64 y4));have hq5 := Lib.hid ((hq1.drew.below hb45 hg2l).far (p := ⟨g, i + j, none⟩) (Nat.ne_of_lt hg2g) (.int .i64 y4));have hB5 := Lib.hid ((hbw.drew.trans (hb45.mono hbw.size)).setCell (p := ⟨g, i + j, none⟩) (Nat.le_of_lt hgw) (.int .i64 y4));have hI5 := Lib.hid (hset.out _ hib5);replace kk := Lib.hid kk;clear hcW hfW hx3 hx4 hw4;go_wp2_with (fail);go_roundw
     case rel => exact ⟨j + 1, by omega, by go_num, hI5, ⟨kk.out.1, kk.out.2.1, kk.out.2.2.1⟩, hp5.out, hq5.out, hB5.out⟩
     case measure => simp [intOf]; omega
    ·obtain rfl : j = N2 := by omega
     have hib2 := hib.out;rw [lst_congr (fun t _ => by rw [convP_row P Q hQ0.out t])] at hib2;replace hib2 := Lib.hid hib2;go_wp2_with (fail);go_roundw
     case rel => exact ⟨i + 1, by omega, by go_num, hib2, hbx, hp1, hq1, hbw⟩
     case measure => simp [intOf]; omega
  ·obtain rfl : i = N1 := by omega
   obtain ⟨q0, q1, q2⟩ := hbx.cells;go_wp2_with (fail);(with_reducible refine (hF (some ⟨g, 0, none⟩) wo hib.out.rd).out.mono ?_);rintro e w4 ⟨g4, rfl, hg4, hib4, hb4⟩;go_wp2_with (fail);go_ret;exact ⟨g4, rfl, Nat.le_trans hbw.size hg4, hib4, hbw.trans (hb4.mono hbw.size)⟩
end Go.Proofs.YtakonlfojblcmaaGreat
