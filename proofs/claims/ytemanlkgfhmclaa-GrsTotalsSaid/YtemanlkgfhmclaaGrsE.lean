/- Layer 18: Encode, Check, the reference's Elements. -/
import Derived.Test.YtemanlkgfhmclaaGrsD
namespace Go.Proofs.Ytemanlkgfhmclaa
open Go.RowKit Cw

/-- Encode's error. -/
def encErr (D : Desc) (K : Int) (pts mul msg : List Int) : Int := if gchkD D K pts mul ≠ 0 then gchkD D K pts mul else elErr D msg K 3
theorem gchkD_zero {D : Desc} {K : Int} {pts mul : List Int} (h : gchkD D K pts mul = 0) : 1 ≤ pts.length ∧ pts.length ≤ 64 ∧ mul.length = pts.length ∧ elB D pts = true ∧ elB D mul = true ∧ twB pts = false ∧ ¬ (0 : Int) ∈ mul ∧ 0 ≤ K ∧ K ≤ (pts.length : Int) := by
  unfold gchkD at h
  by_cases h1 : pts.length < 1 ∨ 64 < pts.length
  · rw [if_pos h1] at h; cases h
  rw [if_neg h1] at h
  by_cases h2 : mul.length ≠ pts.length
  · rw [if_pos h2] at h; cases h
  rw [if_neg h2] at h
  by_cases h3 : elB D pts = false ∨ elB D mul = false
  · rw [if_pos h3] at h; cases h
  rw [if_neg h3] at h
  by_cases h4 : twB pts = true
  · rw [if_pos h4] at h; cases h
  rw [if_neg h4] at h
  by_cases h5 : (0 : Int) ∈ mul
  · rw [if_pos h5] at h; cases h
  rw [if_neg h5] at h
  by_cases h6 : K < 0 ∨ (pts.length : Int) < K
  · rw [if_pos h6] at h; cases h
  refine ⟨by omega, by omega, Classical.not_not.1 h2, ?_, ?_, ?_, h5, by omega, by omega⟩
  · rcases Bool.eq_false_or_eq_true (elB D pts) with e | e
    · exact e
    · exact absurd (.inl e) h3
  · rcases Bool.eq_false_or_eq_true (elB D mul) with e | e
    · exact e
    · exact absurd (.inr e) h3
  · rwa [Bool.not_eq_true] at h4

set_option maxHeartbeats 1000000 in
theorem gEnc_bad (P M K : Int) (ml pts mul : List Int) (A A1 A2 : Option Addr) (c c1 c2 : Nat) (msg : List Int) (A3 : Option Addr) (c3 : Nat) (w : World) (hP : I64 P) (hM : I64 M) (hl : ml.length ≤ maxLen) (hr : Rd w w.heap.size A ml) (hb : ¬ Good P M ml) :
    Calls Try.prog 17 #[.agg #[.int .i64 P, .int .i64 M, .slice A ml.length c, .int .i64 K, .slice A1 pts.length c1, .slice A2 mul.length c2], .slice A3 msg.length c3] w fun e w' => e = .returned (.tuple #[.slice none 0 0, .int .i64 1]) ∧ Below w.heap.size w w' := by
  have hN := fun W h => Lib.hid (gOpen_bad P M K ml pts mul A A1 A2 c c1 c2 W hP hM hl h hb)
  have hB : Below w.heap.size w (w.alloc (.cells #[.int .i64 P, .int .i64 M, .slice A ml.length c, .int .i64 K, .slice A1 pts.length c1, .slice A2 mul.length c2] 26)) := (Below.refl _ _).alloc (Nat.le_refl _) _
  have hN2 := hN _ ((hr.below hB).more hB.size)
  clear hP hM hl hb hN
  go_enter Try.func17, Try.ntmps17
  go_wp2_with (fail)
  (with_reducible refine hN2.out.mono ?_)
  rintro e w1 ⟨rfl, hb1⟩
  go_wp2_with (fail)
  go_ret2
  exact ⟨rfl, hB.trans (hb1.mono hB.size)⟩

/-- What Encode hands back over a field. -/
def EncPost (D : Desc) (K : Int) (pts mul msg : List Int) (w : World) (e : Ending) (w' : World) : Prop :=
  Below w.heap.size w w' ∧ ((encErr D K pts mul msg ≠ 0 ∧ e = .returned (.tuple #[.slice none 0 0, .int .i64 (encErr D K pts mul msg)])) ∨
    (encErr D K pts mul msg = 0 ∧ ∃ A', e = .returned (.tuple #[.slice A' (wordL D pts mul msg).length (wordL D pts mul msg).length, .int .i64 0]) ∧ Rd w' w'.heap.size A' (wordL D pts mul msg)))
/-- The same, with the word in memory of its own. -/
def EncPost2 (D : Desc) (K : Int) (pts mul msg : List Int) (w : World) (e : Ending) (w' : World) : Prop :=
  Below w.heap.size w w' ∧ ((encErr D K pts mul msg ≠ 0 ∧ e = .returned (.tuple #[.slice none 0 0, .int .i64 (encErr D K pts mul msg)])) ∨
    (encErr D K pts mul msg = 0 ∧ ∃ A', e = .returned (.tuple #[.slice A' (wordL D pts mul msg).length (wordL D pts mul msg).length, .int .i64 0]) ∧ Rd w' w'.heap.size A' (wordL D pts mul msg) ∧ (∀ a, A' = some a → w.heap.size ≤ a.block) ∧ ∃ g, A' = some ⟨g, 0, none⟩ ∧ IB w' g (wordL D pts mul msg)))

set_option maxRecDepth 100000 in
set_option maxHeartbeats 2000000 in
theorem gEnc_D2 (D : Desc) (K : Int) (pts mul : List Int) (A A1 A2 : Option Addr) (c c1 c2 : Nat) (msg : List Int) (A3 : Option Addr) (c3 : Nat) (w : World) (hr : Rd w w.heap.size A (modL D)) (hg : Good D.p D.m (modL D)) (hr1 : Rd w w.heap.size A1 pts) (hr2 : Rd w w.heap.size A2 mul) (h1 : pts.length ≤ c1) (h1' : c1 ≤ maxLen) (h2 : mul.length ≤ maxLen)
    (hr3 : Rd w w.heap.size A3 msg) (h3 : msg.length ≤ maxLen) :
    Calls Try.prog 17 #[.agg #[.int .i64 D.p, .int .i64 D.m, .slice A D.mod.length c, .int .i64 K, .slice A1 pts.length c1, .slice A2 mul.length c2], .slice A3 msg.length c3] w (EncPost2 D K pts mul msg w) := by
  have hO := fun W a b c' => Lib.hid (gOpen_D D K pts mul A A1 A2 c c1 c2 W a hg b c' h1 h1' h2)
  have k0 := Lib.hid (alloc6 w (.int .i64 D.p) (.int .i64 D.m) (.slice A D.mod.length c) (.int .i64 K) (.slice A1 pts.length c1) (.slice A2 mul.length c2) 26)
  have hB : Below w.heap.size w (w.alloc (.cells #[.int .i64 D.p, .int .i64 D.m, .slice A D.mod.length c, .int .i64 K, .slice A1 pts.length c1, .slice A2 mul.length c2] 26)) := (Below.refl _ _).alloc (Nat.le_refl _) _
  have hO2 := hO _ ((hr.below hB).more hB.size) ((hr1.below hB).more hB.size) ((hr2.below hB).more hB.size)
  have hm3 := h3
  unfold maxLen at hm3
  clear hO hg
  unfold EncPost2
  go_enter Try.func17, Try.ntmps17
  go_wp2_with (fail)
  (with_reducible refine hO2.out.mono ?_)
  rintro e w1 ⟨hb1, g, F, rfl, hgf, hgl, ⟨hz, rfl⟩ | ⟨hz, rfl⟩⟩
  rotate_left
  · have hv : Hid (encErr F.toDesc K pts mul msg = gchkD F.toDesc K pts mul) := if_pos hz
    have hzb : (gchkD F.toDesc K pts mul != 0) = true := by rw [bne_iff_ne]; exact hz
    have hz' := Lib.hid hz
    clear hz
    go_wp2_with (fail)
    go_ret2
    exact ⟨hB.trans (hb1.mono hB.size), .inl ⟨by rw [hv.out]; exact hz'.out, by rw [hv.out]; rfl⟩⟩
  have hv0 : Hid (encErr F.toDesc K pts mul msg = elErr F.toDesc msg K 3) := if_neg (fun h => h hz)
  obtain ⟨-, hp64, hlen, -⟩ := gchkD_zero hz
  have hB1 := hB.trans (hb1.mono hB.size)
  have kk1 := Lib.hid (keep6 hb1 (by simp) k0.out)
  have hr1' := (hr1.below hB1).more hB1.size
  have hr2' := (hr2.below hB1).more hB1.size
  have hr3' := (hr3.below hB1).more hB1.size
  have hE := Lib.hid (gElems_any F msg A3 c3 g w1 hgf hr3' h3)
  have hW := Lib.hid (gEncode_any F K pts mul msg A A1 A2 A3 c c1 c2 c3 g w1 hgf hr1' hr2' hr3' hlen hp64 h3)
  obtain ⟨q0, q1, q2, q3, q4, q5⟩ := kk1.out
  clear hz hb1 hO2 k0 hlen
  by_cases hK : (msg.length : Int) = K
  rotate_left
  · have hv : Hid (encErr F.toDesc K pts mul msg = 3) := hv0.out.trans (if_pos hK)
    have hKb : ((msg.length : Int) != K) = true := by rw [bne_iff_ne]; exact hK
    clear hK
    go_wp2_with (fail)
    go_ret2
    exact ⟨hB1, .inl ⟨by rw [hv.out]; decide, by rw [hv.out]; rfl⟩⟩
  have hKb : ((msg.length : Int) != K) = false := by rw [bne_eq_false_iff_eq]; exact hK
  by_cases he : elB F.toDesc msg = true
  rotate_left
  · rw [Bool.not_eq_true] at he
    have hv : Hid (encErr F.toDesc K pts mul msg = 2) := hv0.out.trans ((if_neg (not_not_intro hK)).trans (if_pos he))
    rw [he] at hE
    clear hK he
    go_wp2_with (fail)
    (with_reducible refine hE.out.mono ?_)
    rintro e w2 ⟨rfl, rfl⟩
    go_wp2_with (fail)
    go_ret2
    exact ⟨hB1, .inl ⟨by rw [hv.out]; decide, by rw [hv.out]; rfl⟩⟩
  have hv : Hid (encErr F.toDesc K pts mul msg = 0) := hv0.out.trans ((if_neg (not_not_intro hK)).trans (if_neg (by rw [he]; simp)))
  rw [he] at hE
  clear hK he
  go_wp2_with (fail)
  (with_reducible refine hE.out.mono ?_)
  rintro e w2 ⟨rfl, rfl⟩
  go_wp2_with (fail)
  (with_reducible refine hW.out.mono ?_)
  rintro e w3 ⟨g3, rfl, hg3, hib, hb3⟩
  go_wp2_with (fail)
  go_ret2
  exact ⟨hB1.trans (hb3.mono hB1.size), .inr ⟨hv.out, _, rfl, hib.rd, fun a e => by cases e; exact Nat.le_trans hB1.size hg3, g3, rfl, hib⟩⟩

theorem gEnc_D (D : Desc) (K : Int) (pts mul : List Int) (A A1 A2 : Option Addr) (c c1 c2 : Nat) (msg : List Int) (A3 : Option Addr) (c3 : Nat) (w : World) (hr : Rd w w.heap.size A (modL D)) (hg : Good D.p D.m (modL D)) (hr1 : Rd w w.heap.size A1 pts) (hr2 : Rd w w.heap.size A2 mul) (h1 : pts.length ≤ c1) (h1' : c1 ≤ maxLen) (h2 : mul.length ≤ maxLen)
    (hr3 : Rd w w.heap.size A3 msg) (h3 : msg.length ≤ maxLen) :
    Calls Try.prog 17 #[.agg #[.int .i64 D.p, .int .i64 D.m, .slice A D.mod.length c, .int .i64 K, .slice A1 pts.length c1, .slice A2 mul.length c2], .slice A3 msg.length c3] w (EncPost D K pts mul msg w) :=
  (gEnc_D2 D K pts mul A A1 A2 c c1 c2 msg A3 c3 w hr hg hr1 hr2 h1 h1' h2 hr3 h3).mono fun _ _ h => ⟨h.1, h.2.imp id fun ⟨h0, A', e1, h4, _⟩ => ⟨h0, A', e1, h4⟩⟩

end Go.Proofs.Ytemanlkgfhmclaa
