/- Layer 18: encode, Word. -/
import Derived.Test.YtemanlkgfhmclaaGrsC
namespace Go.Proofs.Ytemanlkgfhmclaa
open Go.RowKit Cw

/-- The codeword of a message polynomial. -/
def wordL (D : Desc) (pts mul msg : List Int) : List Int := lst pts.length fun i => ci (eli D (mul[i]?.getD 0) * pevI D msg (eli D (pts[i]?.getD 0)))
theorem wordL_length (D : Desc) (pts mul msg : List Int) : (wordL D pts mul msg).length = pts.length := lst_length _ _

set_option maxRecDepth 100000 in
set_option maxHeartbeats 2000000 in
theorem gEncode_any (F : FD) (K : Int) (pts mul msg : List Int) (A A1 A2 A3 : Option Addr) (c c1 c2 c3 g : Nat) (w : World) (hg : GF w w.heap.size g F) (hr1 : Rd w w.heap.size A1 pts) (hr2 : Rd w w.heap.size A2 mul) (hr3 : Rd w w.heap.size A3 msg)
    (hlen : mul.length = pts.length) (hl : pts.length ≤ 64) (hm : msg.length ≤ maxLen) :
    Calls Try.prog 39 #[.pointer (some ⟨g, 0, none⟩), .agg #[.int .i64 F.p, .int .i64 F.m, .slice A F.mod.length c, .int .i64 K, .slice A1 pts.length c1, .slice A2 mul.length c2], .slice A3 msg.length c3] w (Gives w.heap.size (wordL F.toDesc pts mul msg) w) := by
  have hE := fun x W hg hr => Lib.hid (pEval_any F msg x A3 c3 g W hg hr hm)
  have hM := fun y z W hg => Lib.hid (gMul_any F y z g W hg)
  have hmk := mk_ints pts.length (by omega)
  have k0 := alloc6 w (.int .i64 F.p) (.int .i64 F.m) (.slice A F.mod.length c) (.int .i64 K) (.slice A1 pts.length c1) (.slice A2 mul.length c2) 26
  have hB : Below w.heap.size w (w.alloc (.cells #[.int .i64 F.p, .int .i64 F.m, .slice A F.mod.length c, .int .i64 K, .slice A1 pts.length c1, .slice A2 mul.length c2] 26)) := (Below.refl _ _).alloc (Nat.le_refl _) _
  have hI0 := IB.newz (w.alloc (.cells #[.int .i64 F.p, .int .i64 F.m, .slice A F.mod.length c, .int .i64 K, .slice A1 pts.length c1, .slice A2 mul.length c2] 26)) pts.length
  have hB1 : Below (w.heap.size + 1) (w.alloc (.cells #[.int .i64 F.p, .int .i64 F.m, .slice A F.mod.length c, .int .i64 K, .slice A1 pts.length c1, .slice A2 mul.length c2] 26)) ((w.alloc (.cells #[.int .i64 F.p, .int .i64 F.m, .slice A F.mod.length c, .int .i64 K, .slice A1 pts.length c1, .slice A2 mul.length c2] 26)).alloc (.cells (Array.replicate pts.length (Value.int .i64 0)) 3)) := (Below.refl _ _).alloc (by simp) _
  have kk1 := Lib.hid (keep6 hB1 (Nat.lt_succ_self _) k0)
  have hBw := hB.trans (hB1.mono (Nat.le_succ _))
  have hlen' := Lib.hid hlen
  replace k0 := Lib.hid k0
  clear hlen
  go_enter Try.func39, Try.ntmps39
  go_wp2_with (fail)
  rw [World.size_alloc] at hI0
  obtain ⟨gW, hgW⟩ : ∃ gW, gW = w.heap.size + 1 := ⟨_, rfl⟩
  rw [← hgW] at hI0
  simp only [← hgW]
  replace hgW := Lib.hid hgW
  have hib : IB ((w.alloc (.cells #[.int .i64 F.p, .int .i64 F.m, .slice A F.mod.length c, .int .i64 K, .slice A1 pts.length c1, .slice A2 mul.length c2] 26)).alloc (.cells (Array.replicate pts.length (Value.int .i64 0)) 3)) gW (upd pts.length 0 fun i => ci (eli F.toDesc (mul[i]?.getD 0) * pevI F.toDesc msg (eli F.toDesc (pts[i]?.getD 0)))) := by
    rw [upd_zero]; exact hI0
  clear hmk hI0 k0 hB hB1
  go_loopw [17, 8, 9] (fun i _ _ wr => ∃ k : Nat, k ≤ pts.length ∧ i = .int .i64 k ∧ IB wr gW (upd pts.length k fun i => ci (eli F.toDesc (mul[i]?.getD 0) * pevI F.toDesc msg (eli F.toDesc (pts[i]?.getD 0)))) ∧ Hid (wr.cell? ⟨w.heap.size, 0, none⟩ = some (.int .i64 F.p) ∧ wr.cell? ⟨w.heap.size, 1, none⟩ = some (.int .i64 F.m) ∧ wr.cell? ⟨w.heap.size, 2, none⟩ = some (.slice A F.mod.length c) ∧ wr.cell? ⟨w.heap.size, 3, none⟩ = some (.int .i64 K) ∧ wr.cell? ⟨w.heap.size, 4, none⟩ = some (.slice A1 pts.length c1) ∧ wr.cell? ⟨w.heap.size, 5, none⟩ = some (.slice A2 mul.length c2)) ∧ Below w.heap.size w wr) (fun i _ _ _ => pts.length - (intOf i).toNat)
  case atStart => exact ⟨0, by omega, rfl, hib, kk1, hBw⟩
  case round =>
    clear hib kk1 hBw
    obtain ⟨w2, rfl⟩ : ∃ w2 : World, w2 = wr := ⟨_, rfl⟩
    obtain ⟨k, hk, rfl, hib, kk2, hB2⟩ := hrel
    by_cases hlt : k < pts.length
    · have hk0 : (0 : Int) ≤ (k : Int) := by omega
      have hk1 : (k : Int) < (pts.length : Int) := by omega
      have hk2 : (k : Int) < (mul.length : Int) := by rw [hlen'.out]; omega
      obtain ⟨b1, o1, rfl, hb1, hc1⟩ := hr1.at_ hlt
      obtain ⟨b2, o2, rfl, hb2, hc2⟩ := hr2.at_ (by rw [hlen'.out]; exact hlt : k < mul.length)
      have hd1 := (hB2.cell (p := ⟨b1, o1 + k, none⟩) hb1).trans hc1
      have hd2 := (hB2.cell (p := ⟨b2, o2 + k, none⟩) hb2).trans hc2
      have hgW1 : w.heap.size + 1 ≤ gW := Nat.le_of_eq hgW.out.symm
      have hgW2 := hib.lt
      have hset := fun W (h : IB W gW _) => upd_set pts.length k (fun i => ci (eli F.toDesc (mul[i]?.getD 0) * pevI F.toDesc msg (eli F.toDesc (pts[i]?.getD 0)))) ▸ h.set_ k (ci (eli F.toDesc (mul[k]?.getD 0) * pevI F.toDesc msg (eli F.toDesc (pts[k]?.getD 0))))
      obtain ⟨x, hx⟩ : ∃ x, x = pts[k]?.getD 0 := ⟨_, rfl⟩
      obtain ⟨y, hy⟩ : ∃ y, y = mul[k]?.getD 0 := ⟨_, rfl⟩
      rw [← hx] at hd1
      rw [← hy] at hd2
      have hE2 := fun W hg hr => hE x W hg hr
      have hM2 := fun W hg => (hM y (ci (pevI F.toDesc msg (eli F.toDesc x))) W hg).out
      rw [eli_ci] at hM2
      replace hM2 := fun W hg => Lib.hid (hM2 W hg)
      have hkk : Hid (k < (upd pts.length k fun i => ci (eli F.toDesc (mul[i]?.getD 0) * pevI F.toDesc msg (eli F.toDesc (pts[i]?.getD 0)))).length) := by unfold Hid; rw [upd_length]; exact hlt
      have kk8 := Lib.hid (show _ ∧ _ ∧ _ ∧ _ ∧ _ ∧ _ ∧ _ ∧ _ from ⟨kk2.out.1, kk2.out.2.1, kk2.out.2.2.1, kk2.out.2.2.2.1, kk2.out.2.2.2.2.1, kk2.out.2.2.2.2.2, hd1, hd2⟩)
      have hgr := (hg.below hB2).more hB2.size
      have hrr3 := (hr3.below hB2).more hB2.size
      have hb1' := Nat.lt_of_lt_of_le hb1 hB2.size
      have hb2' := Nat.lt_of_lt_of_le hb2 hB2.size
      have hns2 : w.heap.size < w2.heap.size := by omega
      replace hx := Lib.hid hx
      replace hy := Lib.hid hy
      replace hset := Lib.hid hset
      clear hc1 hc2 hd2
      go_wp2_with (fail)
      refine wp_region_held_drew (S := fun w' => w'.cell? ⟨w.heap.size, 0, none⟩ = some (.int .i64 F.p) ∧ w'.cell? ⟨w.heap.size, 1, none⟩ = some (.int .i64 F.m) ∧ w'.cell? ⟨w.heap.size, 2, none⟩ = some (.slice A F.mod.length c) ∧ w'.cell? ⟨w.heap.size, 3, none⟩ = some (.int .i64 K) ∧ w'.cell? ⟨w.heap.size, 4, none⟩ = some (.slice (some ⟨b1, o1, none⟩) pts.length c1) ∧ w'.cell? ⟨w.heap.size, 5, none⟩ = some (.slice (some ⟨b2, o2, none⟩) mul.length c2) ∧ w'.cell? ⟨b1, o1 + k, none⟩ = some (.int .i64 x) ∧ w'.cell? ⟨b2, o2 + k, none⟩ = some (.int .i64 y)) (by kernel_rfl) (by (try dsimp only); exact kk8.out) (fun hHeld => ?_)
      refine wpAnyH_take (i := 0) (oi := ⟨_, _, _, _, _, _⟩) (v := ?_) rfl (by kernel_rfl) (by kernel_rfl) (by kernel_rfl) (fun _ _ _ h => h) (Or.inl ⟨by rfl, ?_⟩) (by assumption) ?_
      rotate_left
      · intro w hSw; (try dsimp only at hSw); go_simp; try with_reducible rfl
      try simp only [Act.put, List.setIfInBounds_toArray, List.set_cons_zero, List.set_cons_succ]
      refine wpAnyH_take (i := 1) (oi := ⟨_, _, _, _, _, _⟩) (v := ?_) rfl (by kernel_rfl) (by kernel_rfl) (by kernel_rfl) (fun _ _ _ h => h) (Or.inl ⟨by rfl, ?_⟩) (by assumption) ?_
      rotate_left
      · intro w hSw; (try dsimp only at hSw); go_simp; try with_reducible rfl
      try simp only [Act.put, List.setIfInBounds_toArray, List.set_cons_zero, List.set_cons_succ]
      refine wpAnyH_take (i := 2) (oi := ⟨_, _, _, _, _, _⟩) (v := ?_) rfl (by kernel_rfl) (by kernel_rfl) (by kernel_rfl) (fun _ _ _ h => h) (Or.inl ⟨by rfl, ?_⟩) (by assumption) ?_
      rotate_left
      · intro w hSw; (try dsimp only at hSw); go_simp; try with_reducible rfl
      try simp only [Act.put, List.setIfInBounds_toArray, List.set_cons_zero, List.set_cons_succ]
      refine wpAnyH_take (i := 3) (oi := ⟨_, _, _, _, _, _⟩) (v := ?_) rfl (by kernel_rfl) (by kernel_rfl) (by kernel_rfl) (fun _ _ _ h => h) (Or.inl ⟨by rfl, ?_⟩) (by assumption) ?_
      rotate_left
      · intro w hSw; (try dsimp only at hSw); go_simp; try with_reducible rfl
      try simp only [Act.put, List.setIfInBounds_toArray, List.set_cons_zero, List.set_cons_succ]
      refine wpAnyH_take (i := 4) (oi := ⟨_, _, _, _, _, _⟩) (v := ?_) rfl (by kernel_rfl) (by kernel_rfl) (by kernel_rfl) (fun _ _ _ h => h) (Or.inl ⟨by rfl, ?_⟩) (by assumption) ?_
      rotate_left
      · intro w hSw; (try dsimp only at hSw); go_simp; try with_reducible rfl
      try simp only [Act.put, List.setIfInBounds_toArray, List.set_cons_zero, List.set_cons_succ]
      refine wpAnyH_take (i := 5) (oi := ⟨_, _, _, _, _, _⟩) (v := ?_) rfl (by kernel_rfl) (by kernel_rfl) (by kernel_rfl) (fun _ _ _ h => h) (Or.inl ⟨by rfl, ?_⟩) (by assumption) ?_
      rotate_left
      · intro w hSw; (try dsimp only at hSw); go_simp; try with_reducible rfl
      try simp only [Act.put, List.setIfInBounds_toArray, List.set_cons_zero, List.set_cons_succ]
      refine wpAnyH_take (i := 6) (oi := ⟨_, _, _, _, _, _⟩) (v := ?_) rfl (by kernel_rfl) (by kernel_rfl) (by kernel_rfl) (fun _ _ _ h => h) (Or.inl ⟨by rfl, ?_⟩) (by assumption) ?_
      rotate_left
      · intro w hSw; (try dsimp only at hSw); go_simp; try with_reducible rfl
      try simp only [Act.put, List.setIfInBounds_toArray, List.set_cons_zero, List.set_cons_succ]
      refine wpAnyH_take (i := 7) (oi := ⟨_, _, _, _, _, _⟩) (v := ?_) rfl (by kernel_rfl) (by kernel_rfl) (by kernel_rfl) (fun _ _ _ h => h) (Or.inl ⟨by rfl, ?_⟩) (by assumption) ?_
      rotate_left
      · intro w hSw; (try dsimp only at hSw); go_simp; try with_reducible rfl
      try simp only [Act.put, List.setIfInBounds_toArray, List.set_cons_zero, List.set_cons_succ]
      refine wpAnyH_take (i := 8) (oi := ⟨_, _, _, _, _, _⟩) (v := ?_) rfl (by kernel_rfl) (by kernel_rfl) (by kernel_rfl) (fun _ _ _ h => h) (Or.inl ⟨by rfl, ?_⟩) (by assumption) ?_
      rotate_left
      · intro w hSw; (try dsimp only at hSw); go_simp; try with_reducible rfl
      try simp only [Act.put, List.setIfInBounds_toArray, List.set_cons_zero, List.set_cons_succ]
      refine wpAnyH_take (i := 9) (oi := ⟨_, _, _, _, _, _⟩) (v := ?_) rfl (by kernel_rfl) (by kernel_rfl) (by kernel_rfl) (fun _ _ _ h => h) (Or.inl ⟨by rfl, ?_⟩) (by assumption) ?_
      rotate_left
      · intro w hSw; (try dsimp only at hSw); go_simp; try with_reducible rfl
      try simp only [Act.put, List.setIfInBounds_toArray, List.set_cons_zero, List.set_cons_succ]
      refine wpAnyH_take (i := 10) (oi := ⟨_, _, _, _, _, _⟩) (v := ?_) rfl (by kernel_rfl) (by kernel_rfl) (by kernel_rfl) (fun _ _ _ h => h) (Or.inl ⟨by rfl, ?_⟩) (by assumption) ?_
      rotate_left
      · intro w hSw; (try dsimp only at hSw); go_simp; try with_reducible rfl
      try simp only [Act.put, List.setIfInBounds_toArray, List.set_cons_zero, List.set_cons_succ]
      refine wpAnyH_ready (rs := [11]) (by kernel_rfl) (by simp) ?_
      refine AllReadyH.cons (o := ⟨_, _, _, _, _, _⟩) rfl (fun K hK => ?_) AllReadyH.nil
      go_simp
      go_at_call 61
      (with_reducible refine (hE2 _ hgr.drew hrr3.drew).out.mono ?_)
      rintro e w3 ⟨rfl, hb3⟩
      go_wp2_with (fail)
      refine hK.out _ _ (by (try dsimp only); exact keep8 hb3 hns2 hb1' hb2' kk8.out) (fun hHeld => ?_)
      clear hK K
      try simp only [Act.put, List.setIfInBounds_toArray, List.set_cons_zero, List.set_cons_succ]
      have hB3 := hB2.drew.trans (hb3.mono hB2.size)
      have hs3 : w2.heap.size ≤ w3.heap.size := hb3.size
      have hib3 := hib.drew.below hb3 hgW2
      refine wpAnyH_ready (rs := [12]) (by kernel_rfl) (by simp) ?_
      refine AllReadyH.cons (o := ⟨_, _, _, _, _, _⟩) rfl (fun K hK => ?_) AllReadyH.nil
      go_simp
      go_at_call 41
      (with_reducible refine (hM2 _ ((hg.below hB3).more hB3.size)).out.mono ?_)
      rintro e w4 ⟨rfl, hb4⟩
      go_wp2_with (fail)
      refine hK.out _ _ (by (try dsimp only); exact keep8 hb4 (Nat.lt_of_lt_of_le hns2 hs3) (Nat.lt_of_lt_of_le hb1' hs3) (Nat.lt_of_lt_of_le hb2' hs3) (keep8 hb3 hns2 hb1' hb2' kk8.out)) (fun hHeld => ?_)
      clear hK K
      try simp only [Act.put, List.setIfInBounds_toArray, List.set_cons_zero, List.set_cons_succ]
      have hib4 := hib3.below hb4 (Nat.lt_of_lt_of_le hgW2 hs3)
      have hcW := hib4.cell hkk.out
      have hfW := hib4.frozen k
      refine wpAnyH_take (i := 13) (oi := ⟨_, _, _, _, _, _⟩) (v := ?_) rfl (by kernel_rfl) (by kernel_rfl) (by kernel_rfl) (fun _ _ _ h => h) (Or.inl ⟨by rfl, ?_⟩) (by assumption) ?_
      rotate_left
      · intro w hSw; (try dsimp only at hSw); go_simp; try with_reducible rfl
      try simp only [Act.put, List.setIfInBounds_toArray, List.set_cons_zero, List.set_cons_succ]
      refine wpAnyH_ready (rs := [14]) (by kernel_rfl) (by simp) ?_
      refine AllReadyH.cons (o := ⟨_, _, _, _, _, _⟩) rfl (fun K hK => ?_) AllReadyH.nil
      go_simp
      refine hK.out _ _ (by (try dsimp only); exact keep8 (B := gW) ((Below.refl _ _).setCell (p := ⟨gW, k, none⟩) (Nat.le_refl _) _) (by omega) (by omega) (by omega) (keep8 hb4 (Nat.lt_of_lt_of_le hns2 hs3) (Nat.lt_of_lt_of_le hb1' hs3) (Nat.lt_of_lt_of_le hb2' hs3) (keep8 hb3 hns2 hb1' hb2' kk8.out))) (fun hHeld => ?_)
      clear hK K
      try simp only [Act.put, List.setIfInBounds_toArray, List.set_cons_zero, List.set_cons_succ]
      refine wpAnyH_done (by kernel_rfl) ?_ _
      have hB4 := hB3.trans (hb4.mono hB3.size)
      have kk10 := keep8 (B := gW) ((Below.refl _ _).setCell (p := ⟨gW, k, none⟩) (Nat.le_refl _) (.int .i64 (ci (eli F.toDesc y * pevI F.toDesc msg (eli F.toDesc x))))) (by omega) (by omega) (by omega) (keep8 hb4 (Nat.lt_of_lt_of_le hns2 hs3) (Nat.lt_of_lt_of_le hb1' hs3) (Nat.lt_of_lt_of_le hb2' hs3) (keep8 hb3 hns2 hb1' hb2' kk8.out))
      have kk11 := Lib.hid (show _ ∧ _ ∧ _ ∧ _ ∧ _ ∧ _ from ⟨kk10.1, kk10.2.1, kk10.2.2.1, kk10.2.2.2.1, kk10.2.2.2.2.1, kk10.2.2.2.2.2.1⟩)
      have hib5 := hset.out _ hib4
      rw [← hx.out, ← hy.out] at hib5
      replace hib5 := Lib.hid hib5
      clear kk10
      go_wp2_with (fail)
      go_roundw
      case rel => exact ⟨k + 1, by omega, by go_num, hib5.out, kk11, hB4.setCell (p := ⟨gW, k, none⟩) (by show _ ≤ gW; omega) _⟩
      case measure => simp [intOf]; omega
    · obtain rfl : k = pts.length := by omega
      rw [upd_full] at hib
      go_wp2_with (fail)
      go_ret
      exact ⟨gW, by rw [wordL_length]; rfl, by have := hgW.out; omega, hib, hB2⟩

set_option maxRecDepth 100000 in
set_option maxHeartbeats 2000000 in
theorem Word18_any (D : Desc) (K : Int) (pts mul msg : List Int) (A A1 A2 A3 : Option Addr) (c c1 c2 c3 : Nat) (w : World) (hr : Rd w w.heap.size A (modL D)) (hr1 : Rd w w.heap.size A1 pts) (hr2 : Rd w w.heap.size A2 mul) (hr3 : Rd w w.heap.size A3 msg)
    (hlen : mul.length = pts.length) (hl : pts.length ≤ 64) (hm : msg.length ≤ maxLen) :
    Calls Try.prog 10 #[.agg #[.int .i64 D.p, .int .i64 D.m, .slice A D.mod.length c, .int .i64 K, .slice A1 pts.length c1, .slice A2 mul.length c2], .slice A3 msg.length c3] w (Gives w.heap.size (wordL D pts mul msg) w) := by
  have hE := fun x W hr hr3 => Lib.hid (Eval5_any D msg x A A3 c c3 W hr hr3 hm)
  have hM := fun y z W hr => Lib.hid (Mul_any D y z A c W hr)
  have hmk := mk_ints pts.length (by omega)
  have k0 := alloc6 w (.int .i64 D.p) (.int .i64 D.m) (.slice A D.mod.length c) (.int .i64 K) (.slice A1 pts.length c1) (.slice A2 mul.length c2) 26
  have hB : Below w.heap.size w (w.alloc (.cells #[.int .i64 D.p, .int .i64 D.m, .slice A D.mod.length c, .int .i64 K, .slice A1 pts.length c1, .slice A2 mul.length c2] 26)) := (Below.refl _ _).alloc (Nat.le_refl _) _
  have hI0 := IB.newz (w.alloc (.cells #[.int .i64 D.p, .int .i64 D.m, .slice A D.mod.length c, .int .i64 K, .slice A1 pts.length c1, .slice A2 mul.length c2] 26)) pts.length
  have hB1 : Below (w.heap.size + 1) (w.alloc (.cells #[.int .i64 D.p, .int .i64 D.m, .slice A D.mod.length c, .int .i64 K, .slice A1 pts.length c1, .slice A2 mul.length c2] 26)) ((w.alloc (.cells #[.int .i64 D.p, .int .i64 D.m, .slice A D.mod.length c, .int .i64 K, .slice A1 pts.length c1, .slice A2 mul.length c2] 26)).alloc (.cells (Array.replicate pts.length (Value.int .i64 0)) 3)) := (Below.refl _ _).alloc (by simp) _
  have kk1 := Lib.hid (keep6 hB1 (Nat.lt_succ_self _) k0)
  have hBw := hB.trans (hB1.mono (Nat.le_succ _))
  have hlen' := Lib.hid hlen
  replace k0 := Lib.hid k0
  clear hlen
  go_enter Try.func10, Try.ntmps10
  go_wp2_with (fail)
  rw [World.size_alloc] at hI0
  obtain ⟨gW, hgW⟩ : ∃ gW, gW = w.heap.size + 1 := ⟨_, rfl⟩
  rw [← hgW] at hI0
  simp only [← hgW]
  replace hgW := Lib.hid hgW
  have hib : IB ((w.alloc (.cells #[.int .i64 D.p, .int .i64 D.m, .slice A D.mod.length c, .int .i64 K, .slice A1 pts.length c1, .slice A2 mul.length c2] 26)).alloc (.cells (Array.replicate pts.length (Value.int .i64 0)) 3)) gW (upd pts.length 0 fun i => ci (eli D (mul[i]?.getD 0) * pevI D msg (eli D (pts[i]?.getD 0)))) := by
    rw [upd_zero]; exact hI0
  clear hmk hI0 k0 hB hB1
  go_loopw [6] (fun i wr => ∃ k : Nat, k ≤ pts.length ∧ i = .int .i64 k ∧ IB wr gW (upd pts.length k fun i => ci (eli D (mul[i]?.getD 0) * pevI D msg (eli D (pts[i]?.getD 0)))) ∧ Hid (wr.cell? ⟨w.heap.size, 0, none⟩ = some (.int .i64 D.p) ∧ wr.cell? ⟨w.heap.size, 1, none⟩ = some (.int .i64 D.m) ∧ wr.cell? ⟨w.heap.size, 2, none⟩ = some (.slice A D.mod.length c) ∧ wr.cell? ⟨w.heap.size, 3, none⟩ = some (.int .i64 K) ∧ wr.cell? ⟨w.heap.size, 4, none⟩ = some (.slice A1 pts.length c1) ∧ wr.cell? ⟨w.heap.size, 5, none⟩ = some (.slice A2 mul.length c2)) ∧ Below w.heap.size w wr) (fun i _ => pts.length - (intOf i).toNat)
  case atStart => exact ⟨0, by omega, rfl, hib, kk1, hBw⟩
  case round =>
    clear hib kk1 hBw
    obtain ⟨w2, rfl⟩ : ∃ w2 : World, w2 = wr := ⟨_, rfl⟩
    obtain ⟨k, hk, rfl, hib, kk2, hB2⟩ := hrel
    by_cases hlt : k < pts.length
    · have hk0 : (0 : Int) ≤ (k : Int) := by omega
      have hk1 : (k : Int) < (pts.length : Int) := by omega
      have hk2 : (k : Int) < (mul.length : Int) := by rw [hlen'.out]; omega
      obtain ⟨b1, o1, rfl, hb1, hc1⟩ := hr1.at_ hlt
      obtain ⟨b2, o2, rfl, hb2, hc2⟩ := hr2.at_ (by rw [hlen'.out]; exact hlt : k < mul.length)
      have hd1 := (hB2.cell (p := ⟨b1, o1 + k, none⟩) hb1).trans hc1
      have hd2 := (hB2.cell (p := ⟨b2, o2 + k, none⟩) hb2).trans hc2
      have hgW1 : w.heap.size + 1 ≤ gW := Nat.le_of_eq hgW.out.symm
      have hgW2 := hib.lt
      have hset := fun W (h : IB W gW _) => upd_set pts.length k (fun i => ci (eli D (mul[i]?.getD 0) * pevI D msg (eli D (pts[i]?.getD 0)))) ▸ h.set_ k (ci (eli D (mul[k]?.getD 0) * pevI D msg (eli D (pts[k]?.getD 0))))
      obtain ⟨x, hx⟩ : ∃ x, x = pts[k]?.getD 0 := ⟨_, rfl⟩
      obtain ⟨y, hy⟩ : ∃ y, y = mul[k]?.getD 0 := ⟨_, rfl⟩
      rw [← hx] at hd1
      rw [← hy] at hd2
      have hE2 := fun W hr hr3 => hE x W hr hr3
      have hM2 := fun W hr => (hM y (ci (pevI D msg (eli D x))) W hr).out
      rw [eli_ci] at hM2
      replace hM2 := fun W hr => Lib.hid (hM2 W hr)
      have hkk : Hid (k < (upd pts.length k fun i => ci (eli D (mul[i]?.getD 0) * pevI D msg (eli D (pts[i]?.getD 0)))).length) := by unfold Hid; rw [upd_length]; exact hlt
      have kk8 := Lib.hid (show _ ∧ _ ∧ _ ∧ _ ∧ _ ∧ _ ∧ _ ∧ _ from ⟨kk2.out.1, kk2.out.2.1, kk2.out.2.2.1, kk2.out.2.2.2.1, kk2.out.2.2.2.2.1, kk2.out.2.2.2.2.2, hd1, hd2⟩)
      have hrr := (hr.below hB2).more hB2.size
      have hrr3 := (hr3.below hB2).more hB2.size
      have hb1' := Nat.lt_of_lt_of_le hb1 hB2.size
      have hb2' := Nat.lt_of_lt_of_le hb2 hB2.size
      have hns2 : w.heap.size < w2.heap.size := by omega
      replace hx := Lib.hid hx
      replace hy := Lib.hid hy
      replace hset := Lib.hid hset
      clear hc1 hc2 hd2 hd1
      go_wp2_with (fail)
      refine wp_region_held_drew (S := fun w' => w'.cell? ⟨w.heap.size, 0, none⟩ = some (.int .i64 D.p) ∧ w'.cell? ⟨w.heap.size, 1, none⟩ = some (.int .i64 D.m) ∧ w'.cell? ⟨w.heap.size, 2, none⟩ = some (.slice A D.mod.length c) ∧ w'.cell? ⟨w.heap.size, 3, none⟩ = some (.int .i64 K) ∧ w'.cell? ⟨w.heap.size, 4, none⟩ = some (.slice (some ⟨b1, o1, none⟩) pts.length c1) ∧ w'.cell? ⟨w.heap.size, 5, none⟩ = some (.slice (some ⟨b2, o2, none⟩) mul.length c2) ∧ w'.cell? ⟨b1, o1 + k, none⟩ = some (.int .i64 x) ∧ w'.cell? ⟨b2, o2 + k, none⟩ = some (.int .i64 y)) (by kernel_rfl) (by (try dsimp only); exact kk8.out) (fun hHeld => ?_)
      refine wpAnyH_take (i := 0) (oi := ⟨_, _, _, _, _, _⟩) (v := ?_) rfl (by kernel_rfl) (by kernel_rfl) (by kernel_rfl) (fun _ _ _ h => h) (Or.inl ⟨by rfl, ?_⟩) (by assumption) ?_
      rotate_left
      · intro w hSw; (try dsimp only at hSw); go_simp; try with_reducible rfl
      try simp only [Act.put, List.setIfInBounds_toArray, List.set_cons_zero, List.set_cons_succ]
      refine wpAnyH_take (i := 1) (oi := ⟨_, _, _, _, _, _⟩) (v := ?_) rfl (by kernel_rfl) (by kernel_rfl) (by kernel_rfl) (fun _ _ _ h => h) (Or.inl ⟨by rfl, ?_⟩) (by assumption) ?_
      rotate_left
      · intro w hSw; (try dsimp only at hSw); go_simp; try with_reducible rfl
      try simp only [Act.put, List.setIfInBounds_toArray, List.set_cons_zero, List.set_cons_succ]
      refine wpAnyH_take (i := 2) (oi := ⟨_, _, _, _, _, _⟩) (v := ?_) rfl (by kernel_rfl) (by kernel_rfl) (by kernel_rfl) (fun _ _ _ h => h) (Or.inl ⟨by rfl, ?_⟩) (by assumption) ?_
      rotate_left
      · intro w hSw; (try dsimp only at hSw); go_simp; try with_reducible rfl
      try simp only [Act.put, List.setIfInBounds_toArray, List.set_cons_zero, List.set_cons_succ]
      refine wpAnyH_take (i := 3) (oi := ⟨_, _, _, _, _, _⟩) (v := ?_) rfl (by kernel_rfl) (by kernel_rfl) (by kernel_rfl) (fun _ _ _ h => h) (Or.inl ⟨by rfl, ?_⟩) (by assumption) ?_
      rotate_left
      · intro w hSw; (try dsimp only at hSw); go_simp; try with_reducible rfl
      try simp only [Act.put, List.setIfInBounds_toArray, List.set_cons_zero, List.set_cons_succ]
      refine wpAnyH_take (i := 4) (oi := ⟨_, _, _, _, _, _⟩) (v := ?_) rfl (by kernel_rfl) (by kernel_rfl) (by kernel_rfl) (fun _ _ _ h => h) (Or.inl ⟨by rfl, ?_⟩) (by assumption) ?_
      rotate_left
      · intro w hSw; (try dsimp only at hSw); go_simp; try with_reducible rfl
      try simp only [Act.put, List.setIfInBounds_toArray, List.set_cons_zero, List.set_cons_succ]
      refine wpAnyH_take (i := 5) (oi := ⟨_, _, _, _, _, _⟩) (v := ?_) rfl (by kernel_rfl) (by kernel_rfl) (by kernel_rfl) (fun _ _ _ h => h) (Or.inl ⟨by rfl, ?_⟩) (by assumption) ?_
      rotate_left
      · intro w hSw; (try dsimp only at hSw); go_simp; try with_reducible rfl
      try simp only [Act.put, List.setIfInBounds_toArray, List.set_cons_zero, List.set_cons_succ]
      refine wpAnyH_take (i := 6) (oi := ⟨_, _, _, _, _, _⟩) (v := ?_) rfl (by kernel_rfl) (by kernel_rfl) (by kernel_rfl) (fun _ _ _ h => h) (Or.inl ⟨by rfl, ?_⟩) (by assumption) ?_
      rotate_left
      · intro w hSw; (try dsimp only at hSw); go_simp; try with_reducible rfl
      try simp only [Act.put, List.setIfInBounds_toArray, List.set_cons_zero, List.set_cons_succ]
      refine wpAnyH_take (i := 7) (oi := ⟨_, _, _, _, _, _⟩) (v := ?_) rfl (by kernel_rfl) (by kernel_rfl) (by kernel_rfl) (fun _ _ _ h => h) (Or.inl ⟨by rfl, ?_⟩) (by assumption) ?_
      rotate_left
      · intro w hSw; (try dsimp only at hSw); go_simp; try with_reducible rfl
      try simp only [Act.put, List.setIfInBounds_toArray, List.set_cons_zero, List.set_cons_succ]
      refine wpAnyH_take (i := 8) (oi := ⟨_, _, _, _, _, _⟩) (v := ?_) rfl (by kernel_rfl) (by kernel_rfl) (by kernel_rfl) (fun _ _ _ h => h) (Or.inl ⟨by rfl, ?_⟩) (by assumption) ?_
      rotate_left
      · intro w hSw; (try dsimp only at hSw); go_simp; try with_reducible rfl
      try simp only [Act.put, List.setIfInBounds_toArray, List.set_cons_zero, List.set_cons_succ]
      refine wpAnyH_take (i := 9) (oi := ⟨_, _, _, _, _, _⟩) (v := ?_) rfl (by kernel_rfl) (by kernel_rfl) (by kernel_rfl) (fun _ _ _ h => h) (Or.inl ⟨by rfl, ?_⟩) (by assumption) ?_
      rotate_left
      · intro w hSw; (try dsimp only at hSw); go_simp; try with_reducible rfl
      try simp only [Act.put, List.setIfInBounds_toArray, List.set_cons_zero, List.set_cons_succ]
      refine wpAnyH_take (i := 10) (oi := ⟨_, _, _, _, _, _⟩) (v := ?_) rfl (by kernel_rfl) (by kernel_rfl) (by kernel_rfl) (fun _ _ _ h => h) (Or.inl ⟨by rfl, ?_⟩) (by assumption) ?_
      rotate_left
      · intro w hSw; (try dsimp only at hSw); go_simp; try with_reducible rfl
      try simp only [Act.put, List.setIfInBounds_toArray, List.set_cons_zero, List.set_cons_succ]
      refine wpAnyH_take (i := 11) (oi := ⟨_, _, _, _, _, _⟩) (v := ?_) rfl (by kernel_rfl) (by kernel_rfl) (by kernel_rfl) (fun _ _ _ h => h) (Or.inl ⟨by rfl, ?_⟩) (by assumption) ?_
      rotate_left
      · intro w hSw; (try dsimp only at hSw); go_simp; try with_reducible rfl
      try simp only [Act.put, List.setIfInBounds_toArray, List.set_cons_zero, List.set_cons_succ]
      refine wpAnyH_take (i := 12) (oi := ⟨_, _, _, _, _, _⟩) (v := ?_) rfl (by kernel_rfl) (by kernel_rfl) (by kernel_rfl) (fun _ _ _ h => h) (Or.inl ⟨by rfl, ?_⟩) (by assumption) ?_
      rotate_left
      · intro w hSw; (try dsimp only at hSw); go_simp; try with_reducible rfl
      try simp only [Act.put, List.setIfInBounds_toArray, List.set_cons_zero, List.set_cons_succ]
      refine wpAnyH_take (i := 13) (oi := ⟨_, _, _, _, _, _⟩) (v := ?_) rfl (by kernel_rfl) (by kernel_rfl) (by kernel_rfl) (fun _ _ _ h => h) (Or.inl ⟨by rfl, ?_⟩) (by assumption) ?_
      rotate_left
      · intro w hSw; (try dsimp only at hSw); go_simp; try with_reducible rfl
      try simp only [Act.put, List.setIfInBounds_toArray, List.set_cons_zero, List.set_cons_succ]
      refine wpAnyH_take (i := 14) (oi := ⟨_, _, _, _, _, _⟩) (v := ?_) rfl (by kernel_rfl) (by kernel_rfl) (by kernel_rfl) (fun _ _ _ h => h) (Or.inl ⟨by rfl, ?_⟩) (by assumption) ?_
      rotate_left
      · intro w hSw; (try dsimp only at hSw); go_simp; try with_reducible rfl
      try simp only [Act.put, List.setIfInBounds_toArray, List.set_cons_zero, List.set_cons_succ]
      refine wpAnyH_take (i := 15) (oi := ⟨_, _, _, _, _, _⟩) (v := ?_) rfl (by kernel_rfl) (by kernel_rfl) (by kernel_rfl) (fun _ _ _ h => h) (Or.inl ⟨by rfl, ?_⟩) (by assumption) ?_
      rotate_left
      · intro w hSw; (try dsimp only at hSw); go_simp; try with_reducible rfl
      try simp only [Act.put, List.setIfInBounds_toArray, List.set_cons_zero, List.set_cons_succ]
      refine wpAnyH_take (i := 16) (oi := ⟨_, _, _, _, _, _⟩) (v := ?_) rfl (by kernel_rfl) (by kernel_rfl) (by kernel_rfl) (fun _ _ _ h => h) (Or.inl ⟨by rfl, ?_⟩) (by assumption) ?_
      rotate_left
      · intro w hSw; (try dsimp only at hSw); go_simp; try with_reducible rfl
      try simp only [Act.put, List.setIfInBounds_toArray, List.set_cons_zero, List.set_cons_succ]
      refine wpAnyH_ready (rs := [17]) (by kernel_rfl) (by simp) ?_
      refine AllReadyH.cons (o := ⟨_, _, _, _, _, _⟩) rfl (fun K hK => ?_) AllReadyH.nil
      go_simp
      go_at_call 31
      (with_reducible refine (hE2 _ hrr.drew hrr3.drew).out.mono ?_)
      rintro e w3 ⟨rfl, hb3⟩
      go_wp2_with (fail)
      refine hK.out _ _ (by (try dsimp only); exact keep8 hb3 hns2 hb1' hb2' kk8.out) (fun hHeld => ?_)
      clear hK K
      try simp only [Act.put, List.setIfInBounds_toArray, List.set_cons_zero, List.set_cons_succ]
      have hB3 := hB2.drew.trans (hb3.mono hB2.size)
      have hs3 : w2.heap.size ≤ w3.heap.size := hb3.size
      have hib3 := hib.drew.below hb3 hgW2
      refine wpAnyH_ready (rs := [18]) (by kernel_rfl) (by simp) ?_
      refine AllReadyH.cons (o := ⟨_, _, _, _, _, _⟩) rfl (fun K hK => ?_) AllReadyH.nil
      go_simp
      go_at_call 30
      (with_reducible refine (hM2 _ ((hr.below hB3).more hB3.size)).out.mono ?_)
      rintro e w4 ⟨rfl, hb4⟩
      go_wp2_with (fail)
      refine hK.out _ _ (by (try dsimp only); exact keep8 hb4 (Nat.lt_of_lt_of_le hns2 hs3) (Nat.lt_of_lt_of_le hb1' hs3) (Nat.lt_of_lt_of_le hb2' hs3) (keep8 hb3 hns2 hb1' hb2' kk8.out)) (fun hHeld => ?_)
      clear hK K
      try simp only [Act.put, List.setIfInBounds_toArray, List.set_cons_zero, List.set_cons_succ]
      have hib4 := hib3.below hb4 (Nat.lt_of_lt_of_le hgW2 hs3)
      have hcW := hib4.cell hkk.out
      have hfW := hib4.frozen k
      refine wpAnyH_take (i := 19) (oi := ⟨_, _, _, _, _, _⟩) (v := ?_) rfl (by kernel_rfl) (by kernel_rfl) (by kernel_rfl) (fun _ _ _ h => h) (Or.inl ⟨by rfl, ?_⟩) (by assumption) ?_
      rotate_left
      · intro w hSw; (try dsimp only at hSw); go_simp; try with_reducible rfl
      try simp only [Act.put, List.setIfInBounds_toArray, List.set_cons_zero, List.set_cons_succ]
      refine wpAnyH_ready (rs := [20]) (by kernel_rfl) (by simp) ?_
      refine AllReadyH.cons (o := ⟨_, _, _, _, _, _⟩) rfl (fun K hK => ?_) AllReadyH.nil
      go_simp
      refine hK.out _ _ (by (try dsimp only); exact keep8 (B := gW) ((Below.refl _ _).setCell (p := ⟨gW, k, none⟩) (Nat.le_refl _) _) (by omega) (by omega) (by omega) (keep8 hb4 (Nat.lt_of_lt_of_le hns2 hs3) (Nat.lt_of_lt_of_le hb1' hs3) (Nat.lt_of_lt_of_le hb2' hs3) (keep8 hb3 hns2 hb1' hb2' kk8.out))) (fun hHeld => ?_)
      clear hK K
      try simp only [Act.put, List.setIfInBounds_toArray, List.set_cons_zero, List.set_cons_succ]
      refine wpAnyH_done (by kernel_rfl) ?_ _
      have hB4 := hB3.trans (hb4.mono hB3.size)
      have kk10 := keep8 (B := gW) ((Below.refl _ _).setCell (p := ⟨gW, k, none⟩) (Nat.le_refl _) (.int .i64 (ci (eli D y * pevI D msg (eli D x))))) (by omega) (by omega) (by omega) (keep8 hb4 (Nat.lt_of_lt_of_le hns2 hs3) (Nat.lt_of_lt_of_le hb1' hs3) (Nat.lt_of_lt_of_le hb2' hs3) (keep8 hb3 hns2 hb1' hb2' kk8.out))
      have kk11 := Lib.hid (show _ ∧ _ ∧ _ ∧ _ ∧ _ ∧ _ from ⟨kk10.1, kk10.2.1, kk10.2.2.1, kk10.2.2.2.1, kk10.2.2.2.2.1, kk10.2.2.2.2.2.1⟩)
      have hib5 := hset.out _ hib4
      rw [← hx.out, ← hy.out] at hib5
      replace hib5 := Lib.hid hib5
      clear kk10
      go_wp2_with (fail)
      go_roundw
      case rel => exact ⟨k + 1, by omega, by go_num, hib5.out, kk11, hB4.setCell (p := ⟨gW, k, none⟩) (by show _ ≤ gW; omega) _⟩
      case measure => simp [intOf]; omega
    · obtain rfl : k = pts.length := by omega
      rw [upd_full] at hib
      go_wp2_with (fail)
      go_ret
      exact ⟨gW, by rw [wordL_length]; rfl, by have := hgW.out; omega, hib, hB2⟩
end Go.Proofs.Ytemanlkgfhmclaa
