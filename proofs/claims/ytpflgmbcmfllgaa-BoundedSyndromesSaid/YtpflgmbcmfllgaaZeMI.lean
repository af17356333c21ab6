/- The reference's rows of a code: Power. The reference's rows of a code. The codewords of the powers are the generator's rows. The reference's code of a description. -/
import Derived.IntWalk
import Derived.Test.YtpflgmbcmfllgaaZeGrsD
import Derived.Test.YtpflgmbcmfllgaaZeMatZ
namespace Go.Proofs.Ytpflgmbcmfllgaa
open Go.RowKit Cw
attribute [local go_sem] Oper.semAt_some

set_option maxHeartbeats 1000000 in
theorem Power5_any (i : Nat) (w : World) (hi : i ≤ 1000) :
    Calls Try.prog 102 #[.int .i64 i] w (Gives w.heap.size ((List.replicate (i + 1) (0 : Int)).set i 1) w) := by
  have hmk := fun W => mk_ints (i + 1) (by omega) W
  push_cast at hmk
  have hwr : IntKind.i64.wrap ((i : Int) + 1) = (i : Int) + 1 := IntWalk.i64_in _ (by omega)
  have hi0 : (0 : Int) ≤ (i : Int) := by omega
  have hi1 : (i : Int) < (i : Int) + 1 := by omega
  have hib := IB.newz w (i + 1)
  have hfz := hib.frozen i
  have hcl := hib.cell (i := i) (by simp)
  have hw2 : (w.alloc (.cells (Array.replicate (i + 1) (Value.int .i64 0)) 3)).setCell ⟨w.heap.size, i, none⟩ (.int .i64 1) = w.alloc (.cells ((Array.replicate (i + 1) (Value.int .i64 0)).setIfInBounds i (.int .i64 1)) 3) := by simp [go_sem]
  have hset := (hib.set_ i 1)
  have hB := (((Below.refl w.heap.size w).alloc (Nat.le_refl _) (.cells (Array.replicate (i + 1) (Value.int .i64 0)) 3)).setCell (p := ⟨w.heap.size, i, none⟩) (Nat.le_refl _) (.int .i64 1))
  rw [hw2] at hset hB
  replace hw2 := Lib.hid hw2
  replace hset := Lib.hid hset
  replace hB := Lib.hid hB
  go_enter Try.func102, Try.ntmps102
  go_wp2_with (fail)
  go_ret
  exact ⟨w.heap.size, by simp, Nat.le_refl _, hset.out, hB.out⟩
end Go.Proofs.Ytpflgmbcmfllgaa

namespace Go.Proofs.Ytpflgmbcmfllgaa
open Go.RowKit Cw
attribute [local go_sem] Oper.semAt_some

/-- The coefficients of the power i of x; the codewords of the powers. -/
def powL (i : Nat) : List Int := (List.replicate (i + 1) (0 : Int)).set i 1
theorem powL_length (i : Nat) : (powL i).length = i + 1 := by simp [powL]
theorem OwnM.low {w : World} {B B' n : Nat} {v : Value} {rows : Nat → List Int} (h : OwnM w B v n rows) (hB : B' ≤ B) : OwnM w B' v n rows := by
  obtain ⟨hs, h1, h2, h3⟩ := h
  refine ⟨hs, h1, ⟨h2.1, ?_⟩, fun i hi => ?_⟩
  · rcases h2.2 with hn | ⟨g, cap, cur, e, hb, rest⟩
    · exact .inl hn
    · exact .inr ⟨g, cap, cur, e, Nat.le_trans hB hb, rest⟩
  · obtain ⟨Ai, c, a1, a2, a3, a4, a5⟩ := h3 i hi
    exact ⟨Ai, c, a1, a2, a3, a4, fun hn a e => ⟨(a5 hn a e).1, Nat.le_trans hB (a5 hn a e).2⟩⟩
def rowsW (D : Desc) (pts mul : List Int) : Nat → List Int := fun i => wordL D pts mul (powL i)
set_option maxRecDepth 100000 in
set_option maxHeartbeats 2000000 in
theorem Rows18_any (D : Desc) (kn : Nat) (pts mul : List Int) (A A1 A2 : Option Addr) (c c1 c2 : Nat) (w : World) (hr : Rd w w.heap.size A (modL D)) (hr1 : Rd w w.heap.size A1 pts) (hr2 : Rd w w.heap.size A2 mul)
    (hlen : mul.length = pts.length) (hl : pts.length ≤ 64) (hk : kn ≤ 64) :
    Calls Try.prog 51 #[.agg #[.int .i64 D.p, .int .i64 D.m, .slice A D.mod.length c, .int .i64 (kn : Int), .slice A1 pts.length c1, .slice A2 mul.length c2]] w fun e w' => ∃ v, e = .returned v ∧ OwnM w' w.heap.size v kn (rowsW D pts mul) ∧ Below w.heap.size w w' := by
  have hP := fun (i : Nat) (W : World) (h : i ≤ 1000) => Lib.hid (show Calls Try.prog 102 #[.int .i64 i] W (Gives W.heap.size (powL i) W) from Power5_any i W h)
  have hW := fun i A3 c3 W a b c' d (hi : i ≤ 64) => Lib.hid (Word18_any D kn pts mul (powL i) A A1 A2 A3 c c1 c2 c3 W a b c' d hlen hl (by rw [powL_length]; unfold maxLen; omega))
  obtain ⟨Z, hZ⟩ : ∃ Z, Z = w.alloc (.cells #[.int .i64 D.p, .int .i64 D.m, .slice A D.mod.length c, .int .i64 (kn : Int), .slice A1 pts.length c1, .slice A2 mul.length c2] 49) := ⟨_, rfl⟩
  have hB : Below w.heap.size w Z := by rw [hZ]; exact (Below.refl _ _).alloc (Nat.le_refl _) _
  have hZs : w.heap.size < Z.heap.size := by rw [hZ]; simp
  have k0 := Lib.hid (show Z.cell? ⟨w.heap.size, 0, none⟩ = some (.int .i64 D.p) ∧ Z.cell? ⟨w.heap.size, 1, none⟩ = some (.int .i64 D.m) ∧ Z.cell? ⟨w.heap.size, 2, none⟩ = some (.slice A D.mod.length c) ∧ Z.cell? ⟨w.heap.size, 3, none⟩ = some (.int .i64 (kn : Int)) ∧ Z.cell? ⟨w.heap.size, 4, none⟩ = some (.slice A1 pts.length c1) ∧ Z.cell? ⟨w.heap.size, 5, none⟩ = some (.slice A2 mul.length c2) from by rw [hZ]; simp [go_sem])
  have hlenH := Lib.hid hlen
  replace hZ := Lib.hid hZ
  clear hlen
  go_enter Try.func51, Try.ntmps51
  go_wp2_with (fail)
  rw [← hZ.out]
  go_loopw [4, 3] (fun iS v wr => ∃ k : Nat, k ≤ kn ∧ iS = .int .i64 k ∧ OwnM wr Z.heap.size v k (rowsW D pts mul) ∧ Hid (wr.cell? ⟨w.heap.size, 0, none⟩ = some (.int .i64 D.p) ∧ wr.cell? ⟨w.heap.size, 1, none⟩ = some (.int .i64 D.m) ∧ wr.cell? ⟨w.heap.size, 2, none⟩ = some (.slice A D.mod.length c) ∧ wr.cell? ⟨w.heap.size, 3, none⟩ = some (.int .i64 (kn : Int)) ∧ wr.cell? ⟨w.heap.size, 4, none⟩ = some (.slice A1 pts.length c1) ∧ wr.cell? ⟨w.heap.size, 5, none⟩ = some (.slice A2 mul.length c2)) ∧ Below w.heap.size w wr ∧ Z.heap.size ≤ wr.heap.size) (fun iS _ _ => kn - (intOf iS).toNat)
  case atStart => exact ⟨0, by omega, rfl, OwnM.nil _ _ _, k0, hB, Nat.le_refl _⟩
  case round =>
    clear k0 hB hZ
    obtain ⟨w3, rfl⟩ : ∃ w3 : World, w3 = wr := ⟨_, rfl⟩
    obtain ⟨k, hkk, rfl, hown, kk, hbw, hs3⟩ := hrel
    obtain ⟨Av, cv, rfl⟩ := hown.size
    obtain ⟨q0, q1, q2, q3, q4, q5⟩ := kk.out
    by_cases hlt : k < kn
    · have hlt3 : w.heap.size < w3.heap.size := by omega
      have hP3 := hP k w3.drew (by omega)
      unfold Gives at hP3
      clear q0 q1 q2 q4 q5
      go_wp2_with (fail)
      refine wp_region_held_drew (S := fun w' => w'.cell? ⟨w.heap.size, 0, none⟩ = some (.int .i64 D.p) ∧ w'.cell? ⟨w.heap.size, 1, none⟩ = some (.int .i64 D.m) ∧ w'.cell? ⟨w.heap.size, 2, none⟩ = some (.slice A D.mod.length c) ∧ w'.cell? ⟨w.heap.size, 3, none⟩ = some (.int .i64 (kn : Int)) ∧ w'.cell? ⟨w.heap.size, 4, none⟩ = some (.slice A1 pts.length c1) ∧ w'.cell? ⟨w.heap.size, 5, none⟩ = some (.slice A2 mul.length c2)) (by kernel_rfl) (by (try dsimp only); exact kk.out) (fun hHeld => ?_)
      refine wpAnyH_take (i := 0) (oi := ⟨_, _, _, _, _, _⟩) (v := ?_) rfl (by kernel_rfl) (by kernel_rfl) (by kernel_rfl) (fun _ _ _ h => h) (Or.inl ⟨by rfl, ?_⟩) (by assumption) ?_
      rotate_left
      · intro w hSw; (try dsimp only at hSw); go_simp; try with_reducible rfl
      try simp only [Act.put, List.setIfInBounds_toArray, List.set_cons_zero, List.set_cons_succ]
      refine wpAnyH_take (i := 1) (oi := ⟨_, _, _, _, _, _⟩) (v := ?_) rfl (by kernel_rfl) (by kernel_rfl) (by kernel_rfl) (fun _ _ _ h => h) (Or.inl ⟨by rfl, ?_⟩) (by assumption) ?_
      rotate_left
      · intro w hSw; (try dsimp only at hSw); go_simp; try with_reducible rfl
      try simp only [Act.put, List.setIfInBounds_toArray, List.set_cons_zero, List.set_cons_succ]
      refine wpAnyH_take (i := 2) (oi := ⟨_, _, _, _, _, _⟩) (v := ?_) rfl (by kernel_rfl) (by kernel_rfl) (by kernel_rfl) (fun _ _ _ h => h) (Or.inl ⟨by rfl, ?_⟩) (by assumption) ?_
      rotate_left
      · intro w hSw; (try dsimp only at hSw); go_simp; try with_reducible rfl
      try simp only [Act.put, List.setIfInBounds_toArray, List.set_cons_zero, List.set_cons_succ]
      refine wpAnyH_ready (rs := [3]) (by kernel_rfl) (by simp) ?_
      refine AllReadyH.cons (o := ⟨_, _, _, _, _, _⟩) rfl (fun K hK => ?_) AllReadyH.nil
      go_simp
      go_at_call 102
      (with_reducible refine (hP3).out.mono ?_)
      rintro e w4 ⟨g4, rfl, hg4, hib4, hb4⟩
      have kk4 := Lib.hid (keep6 hb4 hlt3 kk.out)
      have hB4 := hbw.drew.trans (hb4.mono hbw.size)
      have hs4 : w3.heap.size ≤ w4.heap.size := hb4.size
      have hW4 := hW k (some ⟨g4, 0, none⟩) (powL k).length w4 ((hr.below hB4).more hB4.size) ((hr1.below hB4).more hB4.size) ((hr2.below hB4).more hB4.size) hib4.rd (by omega)
      unfold Gives at hW4
      go_wp2_with (fail)
      refine hK.out _ _ (by (try dsimp only); exact kk4.out) (fun hHeld => ?_)
      clear hK K
      try simp only [Act.put, List.setIfInBounds_toArray, List.set_cons_zero, List.set_cons_succ]
      refine wpAnyH_ready (rs := [4]) (by kernel_rfl) (by simp) ?_
      refine AllReadyH.cons (o := ⟨_, _, _, _, _, _⟩) rfl (fun K hK => ?_) AllReadyH.nil
      go_simp
      go_at_call 37
      (with_reducible refine (hW4).out.mono ?_)
      rintro e w5 ⟨g5, rfl, hg5, hib5, hb5⟩
      have kk5 := Lib.hid (keep6 hb5 (Nat.lt_of_lt_of_le hlt3 hs4) kk4.out)
      have hb35 : Below w3.heap.size w3 w5 := (Below.refl _ w3).drew.trans (hb4.trans (hb5.mono hb4.size))
      have hown5 := hown.below hb35 (Nat.le_refl _)
      have hs5 : w4.heap.size ≤ w5.heap.size := hb5.size
      obtain ⟨hds, p1, p2, p3⟩ := hown5
      have hlt5 : w.heap.size < w5.heap.size := by omega
      go_wp2_with (fail)
      refine hK.out _ _ (by (try dsimp only); exact kk5.out) (fun hHeld => ?_)
      clear hK K
      try simp only [Act.put, List.setIfInBounds_toArray, List.set_cons_zero, List.set_cons_succ]
      refine wpAnyH_ready (rs := [5]) (by kernel_rfl) (by simp) ?_
      refine AllReadyH.cons (o := ⟨_, _, _, _, _, _⟩) rfl (fun K hK => ?_) AllReadyH.nil
      go_simp
      refine hK.out _ _ (by (try dsimp only); exact keep6 ((Below.refl w5.heap.size w5).alloc (Nat.le_refl _) _) hlt5 kk5.out) (fun hHeld => ?_)
      clear hK K
      try simp only [Act.put, List.setIfInBounds_toArray, List.set_cons_zero, List.set_cons_succ]
      refine wpAnyH_ready (rs := [6]) (by kernel_rfl) (by simp) ?_
      refine AllReadyH.cons (o := ⟨_, _, _, _, _, _⟩) rfl (fun K hK => ?_) AllReadyH.nil
      refine step_app1V rfl (.tmp 11) (.tmp 16) rfl Z.heap.size _ hds _ rfl p2 (by rfl) (by rfl) rfl (by rw [p1]; omega) (by omega) ?_
      intro v6 w6 ho6 hb6 hg6 hv6
      have kk6 := Lib.hid (keep6 hb6 hZs kk5.out)
      refine hK.out _ _ (by (try dsimp only); exact kk6.out) (fun hHeld => ?_)
      clear hK K
      try simp only [Act.put, List.setIfInBounds_toArray, List.set_cons_zero, List.set_cons_succ]
      refine wpAnyH_take (i := 7) (oi := ⟨_, _, _, _, _, _⟩) (v := ?_) rfl (by kernel_rfl) (by kernel_rfl) (by kernel_rfl) (fun _ _ _ h => h) (Or.inl ⟨by rfl, ?_⟩) (by assumption) ?_
      rotate_left
      · intro w hSw; (try dsimp only at hSw); go_simp; try with_reducible rfl
      try simp only [Act.put, List.setIfInBounds_toArray, List.set_cons_zero, List.set_cons_succ]
      refine wpAnyH_done (by kernel_rfl) ?_ _
      have hwl : (rowsW D pts mul k).length ≤ 64 := by unfold rowsW; rw [wordL_length]; exact hl
      have hsn := OwnM.snoc (rows := rowsW D pts mul) p1 p3 (Ak := some ⟨g5, 0, none⟩) (ck := (wordL D pts mul (powL k)).length) hib5.rd (Nat.le_refl _) (by unfold maxLen; exact Nat.le_trans hwl (by omega)) (fun _ a e => by cases e; exact ⟨fun e2 => by have h2 := (World.ownsRow.lt (hown.choose_spec.2.1) _ e2).2; have h3 : w4.heap.size ≤ g5 := hg5; have h4 : g5 < w3.heap.size := h2; omega, show Z.heap.size ≤ g5 by have h3 : w4.heap.size ≤ g5 := hg5; omega⟩) ho6 hg6 hv6
      have hBf := Lib.hid (hbw.trans ((hb35.mono hbw.size).trans (hb6.mono (by omega))))
      have hsf : Hid (Z.heap.size ≤ w6.heap.size) := Nat.le_trans (by omega) hb6.size
      go_wp2_with (fail)
      go_roundw
      case rel => exact ⟨k + 1, by omega, by go_num, hsn, kk6, hBf.out, hsf.out⟩
      case measure => simp [intOf]; omega
    · obtain rfl : k = kn := by omega
      go_wp2_with (fail)
      go_ret
      exact ⟨_, rfl, hown.low (Nat.le_of_lt hZs), hbw⟩
end Go.Proofs.Ytpflgmbcmfllgaa

namespace Go.Proofs.Ytpflgmbcmfllgaa
open Go.RowKit Cw

theorem powL_get (i j : Nat) (h : j < i + 1) : (powL i)[j]?.getD 0 = if j = i then 1 else 0 := by
  unfold powL
  rw [List.getElem?_set]
  by_cases e : i = j
  · subst e; simp
  · rw [if_neg e, if_neg (fun h => e h.symm)]; simp [List.getElem?_replicate, h]
theorem pevI_powL (D : Desc) (i : Nat) (u : R D) : pevI D (powL i) u = pw u i := by
  unfold pevI
  rw [powL_length, rsum_single (k := i) (Nat.lt_succ_self _) fun j hj hne => ?_]
  · rw [powL_get i i (Nat.lt_succ_self _), if_pos rfl, eli_one, one_mul]
  · rw [powL_get i j hj, if_neg hne, eli_zero, zero_mul]
theorem rowsW_eq (D : Desc) (pts mul : List Int) : rowsW D pts mul = rowsL D pts.length (gM D pts mul) := funext fun i => by
  unfold rowsW rowsL rowL wordL gM
  simp only [pevI_powL]
end Go.Proofs.Ytpflgmbcmfllgaa

namespace Go.Proofs.Ytpflgmbcmfllgaa
open Go.RowKit Cw
attribute [local go_sem] Oper.semAt_some

theorem OwnM.rd {w : World} {B n : Nat} {v : Value} {rows : Nat → List Int} (h : OwnM w B v n rows) : ∃ A c, v = .slice A n c ∧ RdM w w.heap.size A n rows := by
  obtain ⟨A, c, rfl⟩ := h.size
  refine ⟨A, c, rfl, ?_⟩
  by_cases h0 : 0 < n
  · obtain ⟨g, c', e, hg', -, -, hmb⟩ := h.mb h0
    have e2 : A = some ⟨g, 0, none⟩ := by injection e
    rw [e2]; exact (hmb.rdmU hg').rdm
  · obtain rfl : n = 0 := by omega
    exact RdM.zero
set_option maxRecDepth 100000 in
set_option maxHeartbeats 2000000 in
theorem Code18_any (F : FD) (kn : Nat) (pts mul : List Int) (A A1 A2 : Option Addr) (c c1 c2 : Nat) (w : World) (hr : Rd w w.heap.size A (modL F.toDesc)) (hr1 : Rd w w.heap.size A1 pts) (hr2 : Rd w w.heap.size A2 mul)
    (hlen : mul.length = pts.length) (hl : pts.length ≤ 64) (hk : kn ≤ 64) :
    Calls Try.prog 82 #[.agg #[.int .i64 F.p, .int .i64 F.m, .slice A F.mod.length c, .int .i64 (kn : Int), .slice A1 pts.length c1, .slice A2 mul.length c2]] w fun e w' => ∃ A3 c3 Al cl, e = .returned (.agg #[.int .i64 F.p, .int .i64 F.m, .slice A3 F.mod.length c3, .int .i64 pts.length, .slice Al (rkS F kn pts.length (gM F.toDesc pts mul)) cl]) ∧
      Rd w' w'.heap.size A3 (modL F.toDesc) ∧ RdM w' w'.heap.size Al (rkS F kn pts.length (gM F.toDesc pts mul)) (rowsL F.toDesc pts.length (elS kn (gM F.toDesc pts mul) pts.length).1) ∧ Below w.heap.size w w' := by
  obtain ⟨Z, hZ⟩ : ∃ Z, Z = (w.alloc (.cells #[.int .i64 F.p, .int .i64 F.m, .slice A F.mod.length c, .int .i64 (kn : Int), .slice A1 pts.length c1, .slice A2 mul.length c2] 49)).alloc (.cells #[.int .i64 0, .int .i64 0, .slice none 0 0, .int .i64 0, .slice none 0 0] 27) := ⟨_, rfl⟩
  have hB : Below w.heap.size w Z := by rw [hZ]; exact ((Below.refl _ _).alloc (Nat.le_refl _) _).alloc (by simp) _
  have hZs : w.heap.size + 1 < Z.heap.size := by rw [hZ]; simp
  have hlt1 : w.heap.size < Z.heap.size := by omega
  have k0 := Lib.hid (show Z.cell? ⟨w.heap.size, 0, none⟩ = some (.int .i64 F.p) ∧ Z.cell? ⟨w.heap.size, 1, none⟩ = some (.int .i64 F.m) ∧ Z.cell? ⟨w.heap.size, 2, none⟩ = some (.slice A F.mod.length c) ∧ Z.cell? ⟨w.heap.size, 3, none⟩ = some (.int .i64 (kn : Int)) ∧ Z.cell? ⟨w.heap.size, 4, none⟩ = some (.slice A1 pts.length c1) ∧ Z.cell? ⟨w.heap.size, 5, none⟩ = some (.slice A2 mul.length c2) from by rw [hZ]; simp [go_sem])
  have k1 : Five Z (w.heap.size + 1) (.int .i64 0) (.int .i64 0) (.slice none 0 0) (.int .i64 0) (.slice none 0 0) := by
    rw [hZ]; have := Five.new (w.alloc (.cells #[.int .i64 F.p, .int .i64 F.m, .slice A F.mod.length c, .int .i64 (kn : Int), .slice A1 pts.length c1, .slice A2 mul.length c2] 49)) (.int .i64 0) (.int .i64 0) (.slice none 0 0) (.int .i64 0) (.slice none 0 0) 27; rw [World.size_alloc] at this; exact this
  have hR := Lib.hid (Rows18_any F.toDesc kn pts mul A A1 A2 c c1 c2 Z.drew ((hr.below hB).more hB.size).drew ((hr1.below hB).more hB.size).drew ((hr2.below hB).more hB.size).drew hlen hl hk)
  have hC := fun Al cl W a b => Lib.hid (Make12_any F kn pts.length (gM F.toDesc pts mul) A Al c cl W a b (by omega) (by omega))
  unfold MakePost at hC
  replace hlen := Lib.hid hlen
  replace hZ := Lib.hid hZ
  go_enter Try.func82, Try.ntmps82
  go_wp2_with (fail)
  rw [← hZ.out]
  refine wp_region_held_drew (S := fun w' => w'.cell? ⟨w.heap.size, 0, none⟩ = some (.int .i64 F.p) ∧ w'.cell? ⟨w.heap.size, 1, none⟩ = some (.int .i64 F.m) ∧ w'.cell? ⟨w.heap.size, 2, none⟩ = some (.slice A F.mod.length c) ∧ w'.cell? ⟨w.heap.size, 3, none⟩ = some (.int .i64 (kn : Int)) ∧ w'.cell? ⟨w.heap.size, 4, none⟩ = some (.slice A1 pts.length c1) ∧ w'.cell? ⟨w.heap.size, 5, none⟩ = some (.slice A2 mul.length c2)) (by kernel_rfl) (by (try dsimp only); exact k0.out) (fun hHeld => ?_)
  refine wpAnyH_take (i := 0) (oi := ⟨_, _, _, _, _, _⟩) (v := ?_) rfl (by kernel_rfl) (by kernel_rfl) (by kernel_rfl) (fun _ _ _ h => h) (Or.inl ⟨by rfl, ?_⟩) (by assumption) ?_
  rotate_left
  · intro w hSw; (try dsimp only at hSw); go_simp; try with_reducible rfl
  try simp only [Act.put, List.setIfInBounds_toArray, List.set_cons_zero, List.set_cons_succ]
  refine wpAnyH_take (i := 1) (oi := ⟨_, _, _, _, _, _⟩) (v := ?_) rfl (by kernel_rfl) (by kernel_rfl) (by kernel_rfl) (fun _ _ _ h => h) (Or.inl ⟨by rfl, ?_⟩) (by assumption) ?_
  rotate_left
  · intro w hSw; (try dsimp only at hSw); go_simp; try with_reducible rfl
  try simp only [Act.put, List.setIfInBounds_toArray, List.set_cons_zero, List.set_cons_succ]
  refine wpAnyH_take (i := 2) (oi := ⟨_, _, _, _, _, _⟩) (v := ?_) rfl (by kernel_rfl) (by kernel_rfl) (by kernel_rfl) (fun _ _ _ h => h) (Or.inl ⟨by rfl, ?_⟩) (by assumption) ?_
  rotate_left
  · intro w hSw; (try dsimp only at hSw); go_simp; try with_reducible rfl
  try simp only [Act.put, List.setIfInBounds_toArray, List.set_cons_zero, List.set_cons_succ]
  refine wpAnyH_take (i := 4) (oi := ⟨_, _, _, _, _, _⟩) (v := ?_) rfl (by kernel_rfl) (by kernel_rfl) (by kernel_rfl) (fun _ _ _ h => h) (Or.inl ⟨by rfl, ?_⟩) (by assumption) ?_
  rotate_left
  · intro w hSw; (try dsimp only at hSw); go_simp; try with_reducible rfl
  try simp only [Act.put, List.setIfInBounds_toArray, List.set_cons_zero, List.set_cons_succ]
  refine wpAnyH_take (i := 5) (oi := ⟨_, _, _, _, _, _⟩) (v := ?_) rfl (by kernel_rfl) (by kernel_rfl) (by kernel_rfl) (fun _ _ _ h => h) (Or.inl ⟨by rfl, ?_⟩) (by assumption) ?_
  rotate_left
  · intro w hSw; (try dsimp only at hSw); go_simp; try with_reducible rfl
  try simp only [Act.put, List.setIfInBounds_toArray, List.set_cons_zero, List.set_cons_succ]
  refine wpAnyH_take (i := 6) (oi := ⟨_, _, _, _, _, _⟩) (v := ?_) rfl (by kernel_rfl) (by kernel_rfl) (by kernel_rfl) (fun _ _ _ h => h) (Or.inl ⟨by rfl, ?_⟩) (by assumption) ?_
  rotate_left
  · intro w hSw; (try dsimp only at hSw); go_simp; try with_reducible rfl
  try simp only [Act.put, List.setIfInBounds_toArray, List.set_cons_zero, List.set_cons_succ]
  refine wpAnyH_ready (rs := [3]) (by kernel_rfl) (by simp) ?_
  refine AllReadyH.cons (o := ⟨_, _, _, _, _, _⟩) rfl (fun K hK => ?_) AllReadyH.nil
  go_simp
  go_at_call 51
  (with_reducible refine (hR).out.mono ?_)
  rintro e w2 ⟨v2, rfl, hown, hb2⟩
  have kk2 := Lib.hid (keep6 hb2 hlt1 k0.out)
  have hB2 := hB.drew.trans (hb2.mono hB.size)
  have hs2 : Z.heap.size ≤ w2.heap.size := hb2.size
  obtain ⟨Al, cl, rfl, hrw⟩ := hown.rd
  rw [rowsW_eq] at hrw
  have hC2 := hC Al cl w2 ((hr.below hB2).more hB2.size) hrw
  go_wp2_with (fail)
  refine hK.out _ _ (by (try dsimp only); exact kk2.out) (fun hHeld => ?_)
  clear hK K
  try simp only [Act.put, List.setIfInBounds_toArray, List.set_cons_zero, List.set_cons_succ]
  refine wpAnyH_ready (rs := [7]) (by kernel_rfl) (by simp) ?_
  refine AllReadyH.cons (o := ⟨_, _, _, _, _, _⟩) rfl (fun K hK => ?_) AllReadyH.nil
  go_simp
  go_at_call 18
  (with_reducible refine (hC2).out.mono ?_)
  rintro e w3 ⟨A3, c3, Al3, cl3, rfl, hr3, hA3, hrm3, hb3⟩
  have kk3 := Lib.hid (keep6 hb3 (Nat.lt_of_lt_of_le hlt1 hs2) kk2.out)
  have hB3 := hB2.trans (hb3.mono hB2.size)
  obtain ⟨a0, a1, a2, a3, a4, g0, g1, g2, g3, g4⟩ := ((show Five Z.drew _ _ _ _ _ _ from k1).keep hb2 hZs).keep hb3 (show w.heap.size + 1 < w2.heap.size by omega)
  go_wp2_with (fail)
  refine hK.out _ _ (by (try dsimp only); exact kk3.out) (fun hHeld => ?_)
  clear hK K
  try simp only [Act.put, List.setIfInBounds_toArray, List.set_cons_zero, List.set_cons_succ]
  refine wpAnyH_ready (rs := [8]) (by kernel_rfl) (by simp) ?_
  refine AllReadyH.cons (o := ⟨_, _, _, _, _, _⟩) rfl (fun K hK => ?_) AllReadyH.nil
  go_simp
  refine hK.out _ _ (by (try dsimp only); exact keep6 (B := w.heap.size + 1) (set5 _ _ _ _ _) (Nat.lt_succ_self _) kk3.out) (fun hHeld => ?_)
  clear hK K
  try simp only [Act.put, List.setIfInBounds_toArray, List.set_cons_zero, List.set_cons_succ]
  refine wpAnyH_done (by kernel_rfl) ?_ _
  have hlt2 : w.heap.size + 1 < w2.heap.size := by omega
  have hrf := Lib.hid (hr3.set5 (b := w.heap.size + 1) (fun b hb => by have := hA3 b hb; omega) (.int .i64 F.p) (.int .i64 F.m) (.slice A3 F.mod.length c3) (.int .i64 pts.length) (.slice Al3 (rkS F kn pts.length (gM F.toDesc pts mul)) cl3))
  have hru4 : Hid (RdMU (((((w3.setCell ⟨w.heap.size + 1, 0, none⟩ (.int .i64 F.p)).setCell ⟨w.heap.size + 1, 1, none⟩ (.int .i64 F.m)).setCell ⟨w.heap.size + 1, 2, none⟩ (.slice A3 F.mod.length c3)).setCell ⟨w.heap.size + 1, 3, none⟩ (.int .i64 pts.length)).setCell ⟨w.heap.size + 1, 4, none⟩ (.slice Al3 (rkS F kn pts.length (gM F.toDesc pts mul)) cl3)) w2.heap.size w3.heap.size Al3 (rkS F kn pts.length (gM F.toDesc pts mul)) (rowsL F.toDesc pts.length (elS kn (gM F.toDesc pts mul) pts.length).1)) := hrm3.keepU fun p hp _ => set5_above (b := w.heap.size + 1) (L := w2.heap.size) hlt2 _ _ _ _ _ p hp
  have hBf : Hid (Below w.heap.size w (((((w3.setCell ⟨w.heap.size + 1, 0, none⟩ (.int .i64 F.p)).setCell ⟨w.heap.size + 1, 1, none⟩ (.int .i64 F.m)).setCell ⟨w.heap.size + 1, 2, none⟩ (.slice A3 F.mod.length c3)).setCell ⟨w.heap.size + 1, 3, none⟩ (.int .i64 pts.length)).setCell ⟨w.heap.size + 1, 4, none⟩ (.slice Al3 (rkS F kn pts.length (gM F.toDesc pts mul)) cl3))) := hB3.trans ((set5 _ _ _ _ _).mono (Nat.le_succ _))
  have hsz : Hid (w3.heap.size ≤ (((((w3.setCell ⟨w.heap.size + 1, 0, none⟩ (.int .i64 F.p)).setCell ⟨w.heap.size + 1, 1, none⟩ (.int .i64 F.m)).setCell ⟨w.heap.size + 1, 2, none⟩ (.slice A3 F.mod.length c3)).setCell ⟨w.heap.size + 1, 3, none⟩ (.int .i64 pts.length)).setCell ⟨w.heap.size + 1, 4, none⟩ (.slice Al3 (rkS F kn pts.length (gM F.toDesc pts mul)) cl3)).heap.size) := by unfold Hid; simp [World.setCell]
  replace hr3 := Lib.hid hr3
  clear hA3 hrm3 hR hC hC2
  go_wp2_with (fail)
  refine bodyPost_ret (v := .agg #[.int .i64 F.p, .int .i64 F.m, .slice A3 F.mod.length c3, .int .i64 pts.length, .slice Al3 (rkS F kn pts.length (gM F.toDesc pts mul)) cl3]) (by simp [results, Try.results82, go_sem, a0, a1, a2, a3, a4]) rfl ⟨A3, c3, Al3, cl3, rfl, hrf.out.more (by simp [World.setCell]), hru4.out.rdm.more hsz.out, hBf.out⟩
end Go.Proofs.Ytpflgmbcmfllgaa
