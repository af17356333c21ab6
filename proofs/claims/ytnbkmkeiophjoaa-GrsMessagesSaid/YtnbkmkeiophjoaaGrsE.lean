/- Layer 18: Encode, Check, the reference's Elements. -/
import Derived.Test.YtnbkmkeiophjoaaGrsD
namespace Go.Proofs.Ytnbkmkeiophjoaa
open Go.RowKit Cw

/-- The error of a list that must have K elements. -/
def elErr (D : Desc) (msg : List Int) (K e : Int) : Int := if (msg.length : Int) ≠ K then e else if elB D msg = false then 2 else 0
/-- Encode's error. -/
def encErr (D : Desc) (K : Int) (pts mul msg : List Int) : Int := if gchkD D K pts mul ≠ 0 then gchkD D K pts mul else elErr D msg K 3
theorem gchkD_zero {D : Desc} {K : Int} {pts mul : List Int} (h : gchkD D K pts mul = 0) : 1 ≤ pts.length ∧ pts.length ≤ 64 ∧ mul.length = pts.length ∧ elB D pts = true ∧ elB D mul = true ∧ twB pts = false ∧ ¬ (0 : Int) ∈ mul ∧ 0 ≤ K ∧ K ≤ (pts.length : Int) := by
  unfold gchkD at h
  by_cases h1 : pts.length < 1 ∨ 64 < pts.length
  · rw [if_pos h1] at h; cases h
  rw [if_neg h1] at h
  by_cases h2 : mul.length ≠ pts.length
  · rw [if_pos h2] at h; cases h
  rw [if_neg h2] at h
  by_cases h3 : elB D pts = false ∨ elB D mul = false
  · rw [if_pos h3] at h; cases h
  rw [if_neg h3] at h
  by_cases h4 : twB pts = true
  · rw [if_pos h4] at h; cases h
  rw [if_neg h4] at h
  by_cases h5 : (0 : Int) ∈ mul
  · rw [if_pos h5] at h; cases h
  rw [if_neg h5] at h
  by_cases h6 : K < 0 ∨ (pts.length : Int) < K
  · rw [if_pos h6] at h; cases h
  refine ⟨by omega, by omega, Classical.not_not.1 h2, ?_, ?_, ?_, h5, by omega, by omega⟩
  · rcases Bool.eq_false_or_eq_true (elB D pts) with e | e
    · exact e
    · exact absurd (.inl e) h3
  · rcases Bool.eq_false_or_eq_true (elB D mul) with e | e
    · exact e
    · exact absurd (.inr e) h3
  · rwa [Bool.not_eq_true] at h4

set_option maxHeartbeats 1000000 in
theorem gEnc_bad (P M K : Int) (ml pts mul : List Int) (A A1 A2 : Option Addr) (c c1 c2 : Nat) (msg : List Int) (A3 : Option Addr) (c3 : Nat) (w : World) (hP : I64 P) (hM : I64 M) (hl : ml.length ≤ maxLen) (hr : Rd w w.heap.size A ml) (hb : ¬ Good P M ml) :
    Calls Try.prog 24 #[.agg #[.int .i64 P, .int .i64 M, .slice A ml.length c, .int .i64 K, .slice A1 pts.length c1, .slice A2 mul.length c2], .slice A3 msg.length c3] w fun e w' => e = .returned (.tuple #[.slice none 0 0, .int .i64 1]) ∧ Below w.heap.size w w' := by
  have hN := fun W h => Lib.hid (gOpen_bad P M K ml pts mul A A1 A2 c c1 c2 W hP hM hl h hb)
  have hB : Below w.heap.size w (w.alloc (.cells #[.int .i64 P, .int .i64 M, .slice A ml.length c, .int .i64 K, .slice A1 pts.length c1, .slice A2 mul.length c2] 27)) := (Below.refl _ _).alloc (Nat.le_refl _) _
  have hN2 := hN _ ((hr.below hB).more hB.size)
  clear hP hM hl hb hN
  go_enter Try.func24, Try.ntmps24
  go_wp2_with (fail)
  (with_reducible refine hN2.out.mono ?_)
  rintro e w1 ⟨rfl, hb1⟩
  go_wp2_with (fail)
  go_ret2
  exact ⟨rfl, hB.trans (hb1.mono hB.size)⟩

/-- What Encode hands back over a field. -/
def EncPost (D : Desc) (K : Int) (pts mul msg : List Int) (w : World) (e : Ending) (w' : World) : Prop :=
  Below w.heap.size w w' ∧ ((encErr D K pts mul msg ≠ 0 ∧ e = .returned (.tuple #[.slice none 0 0, .int .i64 (encErr D K pts mul msg)])) ∨
    (encErr D K pts mul msg = 0 ∧ ∃ A', e = .returned (.tuple #[.slice A' (wordL D pts mul msg).length (wordL D pts mul msg).length, .int .i64 0]) ∧ Rd w' w'.heap.size A' (wordL D pts mul msg)))

set_option maxRecDepth 100000 in
set_option maxHeartbeats 2000000 in
theorem gEnc_D (D : Desc) (K : Int) (pts mul : List Int) (A A1 A2 : Option Addr) (c c1 c2 : Nat) (msg : List Int) (A3 : Option Addr) (c3 : Nat) (w : World) (hr : Rd w w.heap.size A (modL D)) (hg : Good D.p D.m (modL D)) (hr1 : Rd w w.heap.size A1 pts) (hr2 : Rd w w.heap.size A2 mul) (h1 : pts.length ≤ c1) (h1' : c1 ≤ maxLen) (h2 : mul.length ≤ maxLen)
    (hr3 : Rd w w.heap.size A3 msg) (h3 : msg.length ≤ maxLen) :
    Calls Try.prog 24 #[.agg #[.int .i64 D.p, .int .i64 D.m, .slice A D.mod.length c, .int .i64 K, .slice A1 pts.length c1, .slice A2 mul.length c2], .slice A3 msg.length c3] w (EncPost D K pts mul msg w) := by
  have hO := fun W a b c' => Lib.hid (gOpen_D D K pts mul A A1 A2 c c1 c2 W a hg b c' h1 h1' h2)
  have k0 := Lib.hid (alloc6 w (.int .i64 D.p) (.int .i64 D.m) (.slice A D.mod.length c) (.int .i64 K) (.slice A1 pts.length c1) (.slice A2 mul.length c2) 27)
  have hB : Below w.heap.size w (w.alloc (.cells #[.int .i64 D.p, .int .i64 D.m, .slice A D.mod.length c, .int .i64 K, .slice A1 pts.length c1, .slice A2 mul.length c2] 27)) := (Below.refl _ _).alloc (Nat.le_refl _) _
  have hO2 := hO _ ((hr.below hB).more hB.size) ((hr1.below hB).more hB.size) ((hr2.below hB).more hB.size)
  have hm3 := h3
  unfold maxLen at hm3
  clear hO hg
  unfold EncPost
  go_enter Try.func24, Try.ntmps24
  go_wp2_with (fail)
  (with_reducible refine hO2.out.mono ?_)
  rintro e w1 ⟨hb1, g, F, rfl, hgf, hgl, ⟨hz, rfl⟩ | ⟨hz, rfl⟩⟩
  rotate_left
  · have hv : Hid (encErr F.toDesc K pts mul msg = gchkD F.toDesc K pts mul) := if_pos hz
    have hzb : (gchkD F.toDesc K pts mul != 0) = true := by rw [bne_iff_ne]; exact hz
    have hz' := Lib.hid hz
    clear hz
    go_wp2_with (fail)
    go_ret2
    exact ⟨hB.trans (hb1.mono hB.size), .inl ⟨by rw [hv.out]; exact hz'.out, by rw [hv.out]; rfl⟩⟩
  have hv0 : Hid (encErr F.toDesc K pts mul msg = elErr F.toDesc msg K 3) := if_neg (fun h => h hz)
  obtain ⟨-, hp64, hlen, -⟩ := gchkD_zero hz
  have hB1 := hB.trans (hb1.mono hB.size)
  have kk1 := Lib.hid (keep6 hb1 (by simp) k0.out)
  have hr1' := (hr1.below hB1).more hB1.size
  have hr2' := (hr2.below hB1).more hB1.size
  have hr3' := (hr3.below hB1).more hB1.size
  have hE := Lib.hid (gElems_any F msg A3 c3 g w1 hgf hr3' h3)
  have hW := Lib.hid (gEncode_any F K pts mul msg A A1 A2 A3 c c1 c2 c3 g w1 hgf hr1' hr2' hr3' hlen hp64 h3)
  obtain ⟨q0, q1, q2, q3, q4, q5⟩ := kk1.out
  clear hz hb1 hO2 k0 hlen
  by_cases hK : (msg.length : Int) = K
  rotate_left
  · have hv : Hid (encErr F.toDesc K pts mul msg = 3) := hv0.out.trans (if_pos hK)
    have hKb : ((msg.length : Int) != K) = true := by rw [bne_iff_ne]; exact hK
    clear hK
    go_wp2_with (fail)
    go_ret2
    exact ⟨hB1, .inl ⟨by rw [hv.out]; decide, by rw [hv.out]; rfl⟩⟩
  have hKb : ((msg.length : Int) != K) = false := by rw [bne_eq_false_iff_eq]; exact hK
  by_cases he : elB F.toDesc msg = true
  rotate_left
  · rw [Bool.not_eq_true] at he
    have hv : Hid (encErr F.toDesc K pts mul msg = 2) := hv0.out.trans ((if_neg (not_not_intro hK)).trans (if_pos he))
    rw [he] at hE
    clear hK he
    go_wp2_with (fail)
    (with_reducible refine hE.out.mono ?_)
    rintro e w2 ⟨rfl, rfl⟩
    go_wp2_with (fail)
    go_ret2
    exact ⟨hB1, .inl ⟨by rw [hv.out]; decide, by rw [hv.out]; rfl⟩⟩
  have hv : Hid (encErr F.toDesc K pts mul msg = 0) := hv0.out.trans ((if_neg (not_not_intro hK)).trans (if_neg (by rw [he]; simp)))
  rw [he] at hE
  clear hK he
  go_wp2_with (fail)
  (with_reducible refine hE.out.mono ?_)
  rintro e w2 ⟨rfl, rfl⟩
  go_wp2_with (fail)
  (with_reducible refine hW.out.mono ?_)
  rintro e w3 ⟨g3, rfl, hg3, hib, hb3⟩
  go_wp2_with (fail)
  go_ret2
  exact ⟨hB1.trans (hb3.mono hB1.size), .inr ⟨hv.out, _, rfl, hib.rd⟩⟩

set_option maxHeartbeats 1000000 in
theorem gCheck_bad (P M K : Int) (ml pts mul : List Int) (A A1 A2 : Option Addr) (c c1 c2 : Nat) (w : World) (hP : I64 P) (hM : I64 M) (hl : ml.length ≤ maxLen) (hr : Rd w w.heap.size A ml) (hb : ¬ Good P M ml) :
    Calls Try.prog 34 #[.agg #[.int .i64 P, .int .i64 M, .slice A ml.length c, .int .i64 K, .slice A1 pts.length c1, .slice A2 mul.length c2]] w fun e w' => e = .returned (.int .i64 1) ∧ Below w.heap.size w w' := by
  have hN := fun W h => Lib.hid (gOpen_bad P M K ml pts mul A A1 A2 c c1 c2 W hP hM hl h hb)
  have hB : Below w.heap.size w (w.alloc (.cells #[.int .i64 P, .int .i64 M, .slice A ml.length c, .int .i64 K, .slice A1 pts.length c1, .slice A2 mul.length c2] 27)) := (Below.refl _ _).alloc (Nat.le_refl _) _
  have hN2 := hN _ ((hr.below hB).more hB.size)
  clear hP hM hl hb hN
  go_enter Try.func34, Try.ntmps34
  go_wp2_with (fail)
  (with_reducible refine hN2.out.mono ?_)
  rintro e w1 ⟨rfl, hb1⟩
  go_wp2_with (fail)
  go_ret
  exact ⟨rfl, hB.trans (hb1.mono hB.size)⟩
set_option maxHeartbeats 1000000 in
theorem gCheck_D (D : Desc) (K : Int) (pts mul : List Int) (A A1 A2 : Option Addr) (c c1 c2 : Nat) (w : World) (hr : Rd w w.heap.size A (modL D)) (hg : Good D.p D.m (modL D)) (hr1 : Rd w w.heap.size A1 pts) (hr2 : Rd w w.heap.size A2 mul) (h1 : pts.length ≤ c1) (h1' : c1 ≤ maxLen) (h2 : mul.length ≤ maxLen) :
    Calls Try.prog 34 #[.agg #[.int .i64 D.p, .int .i64 D.m, .slice A D.mod.length c, .int .i64 K, .slice A1 pts.length c1, .slice A2 mul.length c2]] w fun e w' => e = .returned (.int .i64 (gchkD D K pts mul)) ∧ Below w.heap.size w w' := by
  have hO := fun W a b c' => Lib.hid (gOpen_D D K pts mul A A1 A2 c c1 c2 W a hg b c' h1 h1' h2)
  have hB : Below w.heap.size w (w.alloc (.cells #[.int .i64 D.p, .int .i64 D.m, .slice A D.mod.length c, .int .i64 K, .slice A1 pts.length c1, .slice A2 mul.length c2] 27)) := (Below.refl _ _).alloc (Nat.le_refl _) _
  have hO2 := hO _ ((hr.below hB).more hB.size) ((hr1.below hB).more hB.size) ((hr2.below hB).more hB.size)
  clear hO hg
  go_enter Try.func34, Try.ntmps34
  go_wp2_with (fail)
  (with_reducible refine hO2.out.mono ?_)
  rintro e w1 ⟨hb1, g, F, rfl, hgf, hgl, ⟨hz, rfl⟩ | ⟨hz, rfl⟩⟩
  · replace hz := Lib.hid hz
    go_wp2_with (fail)
    go_ret
    exact ⟨by rw [hz.out]; rfl, hB.trans (hb1.mono hB.size)⟩
  · clear hz
    go_wp2_with (fail)
    go_ret
    exact ⟨rfl, hB.trans (hb1.mono hB.size)⟩

set_option maxHeartbeats 1000000 in
theorem Elems18_any (D : Desc) (msg : List Int) (K e0 : Int) (A A3 : Option Addr) (c c3 : Nat) (w : World) (hr3 : Rd w w.heap.size A3 msg) (h3 : msg.length ≤ maxLen) :
    Calls Try.prog 25 #[.agg #[.int .i64 D.p, .int .i64 D.m, .slice A D.mod.length c], .slice A3 msg.length c3, .int .i64 K, .int .i64 e0] w fun e w' => e = .returned (.int .i64 (elErr D msg K e0)) ∧ Below w.heap.size w w' := by
  have hm3 := h3
  unfold maxLen at hm3
  have hI := fun x W => Is_any D x A D.mod.length c W
  have hbx0 := Bx.new w D A D.mod.length c 24
  have hB0 : Below w.heap.size w (w.alloc (.cells #[.int .i64 D.p, .int .i64 D.m, .slice A D.mod.length c] 24)) := (Below.refl _ _).alloc (Nat.le_refl _) _
  by_cases hK : (msg.length : Int) = K
  rotate_left
  · have hv : Hid (elErr D msg K e0 = e0) := if_pos hK
    have hKb : ((msg.length : Int) != K) = true := by rw [bne_iff_ne]; exact hK
    clear hK
    go_enter Try.func25, Try.ntmps25
    go_wp2_with (fail)
    go_ret
    exact ⟨by rw [hv.out]; rfl, hB0⟩
  have hv0 : Hid (elErr D msg K e0 = if elB D msg = false then 2 else 0) := if_neg (not_not_intro hK)
  subst hK
  go_enter Try.func25, Try.ntmps25
  go_wp2_with (fail)
  go_loopw [9] (fun i wr => ∃ k : Nat, k ≤ msg.length ∧ i = .int .i64 k ∧ Hid (∀ j, j < k → 0 ≤ msg[j]?.getD 0 ∧ msg[j]?.getD 0 < (D.q : Int)) ∧ Bx wr w.heap.size D A D.mod.length c ∧ Below w.heap.size w wr ∧ w.heap.size < wr.heap.size) (fun i _ => msg.length - (intOf i).toNat)
  case atStart => exact ⟨0, by omega, rfl, fun j hj => absurd hj (by omega), hbx0, hB0, by simp⟩
  case round =>
    clear hbx0 hB0
    obtain ⟨w2, rfl⟩ : ∃ w2 : World, w2 = wr := ⟨_, rfl⟩
    obtain ⟨k, hk, rfl, hall, hbx, hB2, hns2⟩ := hrel
    by_cases hlt : k < msg.length
    · have hk0 : (0 : Int) ≤ (k : Int) := by omega
      have hk1 : (k : Int) < (msg.length : Int) := by omega
      obtain ⟨b, o, rfl, hb, hc⟩ := hr3.at_ hlt
      have hd := (hB2.cell (p := ⟨b, o + k, none⟩) hb).trans hc
      have hb' := Nat.lt_of_lt_of_le hb hB2.size
      have hI2 := fun W => hI (msg[k]?.getD 0) W
      by_cases hy : 0 ≤ msg[k]?.getD 0 ∧ msg[k]?.getD 0 < (D.q : Int)
      · have hall2 : Hid (∀ j, j < k + 1 → 0 ≤ msg[j]?.getD 0 ∧ msg[j]?.getD 0 < (D.q : Int)) := fun j hj => by
          by_cases e : j = k
          · subst e; exact hy
          · exact hall.out j (by omega)
        rw [decide_eq_true hy] at hI2
        replace hI2 := fun W => Lib.hid (hI2 W)
        clear hy hc
        generalize msg[k]?.getD 0 = y at *
        have hcc := Lib.hid (show _ ∧ _ ∧ _ ∧ _ from ⟨hbx.cells.1, hbx.cells.2.1, hbx.cells.2.2, hd⟩)
        clear hd
        go_wp2_with (fail)
        go_region_held3 (fun w' => w'.cell? ⟨w.heap.size, 0, none⟩ = some (.int .i64 D.p) ∧ w'.cell? ⟨w.heap.size, 1, none⟩ = some (.int .i64 D.m) ∧ w'.cell? ⟨w.heap.size, 2, none⟩ = some (.slice A D.mod.length c) ∧ w'.cell? ⟨b, o + k, none⟩ = some (.int .i64 y)) (first | exact hcc.out | exact hcc1.out)
          (first
            | (go_at_call 45; (with_reducible refine (hI2 _).out.mono ?_); rintro e w3 ⟨rfl, hb3⟩; have hcc1 := Lib.hid (show _ ∧ _ ∧ _ ∧ _ from ⟨(keep3 hb3 hns2 ⟨hcc.out.1, hcc.out.2.1, hcc.out.2.2.1⟩).1, (keep3 hb3 hns2 ⟨hcc.out.1, hcc.out.2.1, hcc.out.2.2.1⟩).2.1, (keep3 hb3 hns2 ⟨hcc.out.1, hcc.out.2.1, hcc.out.2.2.1⟩).2.2, (hb3.cell (p := ⟨b, o + k, none⟩) hb').trans hcc.out.2.2.2⟩)))
        go_wp2_with (fail)
        go_roundw
        case rel => exact ⟨k + 1, by omega, by go_num, hall2, ⟨hcc1.out.1, hcc1.out.2.1, hcc1.out.2.2.1⟩, hB2.drew.trans (hb3.mono hB2.size), Nat.lt_of_lt_of_le hns2 hb3.size⟩
        case measure => simp [intOf]; omega
      · have hv : Hid (elErr D msg msg.length e0 = 2) := hv0.out.trans (if_pos (elB_no hlt hy))
        rw [decide_eq_false hy] at hI2
        replace hI2 := fun W => Lib.hid (hI2 W)
        clear hy hc
        generalize msg[k]?.getD 0 = y at *
        have hcc := Lib.hid (show _ ∧ _ ∧ _ ∧ _ from ⟨hbx.cells.1, hbx.cells.2.1, hbx.cells.2.2, hd⟩)
        clear hd
        go_wp2_with (fail)
        go_region_held3 (fun w' => w'.cell? ⟨w.heap.size, 0, none⟩ = some (.int .i64 D.p) ∧ w'.cell? ⟨w.heap.size, 1, none⟩ = some (.int .i64 D.m) ∧ w'.cell? ⟨w.heap.size, 2, none⟩ = some (.slice A D.mod.length c) ∧ w'.cell? ⟨b, o + k, none⟩ = some (.int .i64 y)) (first | exact hcc.out | exact hcc1.out)
          (first
            | (go_at_call 45; (with_reducible refine (hI2 _).out.mono ?_); rintro e w3 ⟨rfl, hb3⟩; have hcc1 := Lib.hid (show _ ∧ _ ∧ _ ∧ _ from ⟨(keep3 hb3 hns2 ⟨hcc.out.1, hcc.out.2.1, hcc.out.2.2.1⟩).1, (keep3 hb3 hns2 ⟨hcc.out.1, hcc.out.2.1, hcc.out.2.2.1⟩).2.1, (keep3 hb3 hns2 ⟨hcc.out.1, hcc.out.2.1, hcc.out.2.2.1⟩).2.2, (hb3.cell (p := ⟨b, o + k, none⟩) hb').trans hcc.out.2.2.2⟩)))
        go_wp2_with (fail)
        go_ret
        exact ⟨by rw [hv.out]; rfl, hB2.drew.trans (hb3.mono hB2.size)⟩
    · obtain rfl : k = msg.length := by omega
      have hv : Hid (elErr D msg msg.length e0 = 0) := hv0.out.trans (if_neg (by rw [elB_iff.2 hall.out]; simp))
      go_wp2_with (fail)
      go_ret
      exact ⟨by rw [hv.out]; rfl, hB2⟩
end Go.Proofs.Ytnbkmkeiophjoaa
