/- GrsPunctures: the walk. -/
import Derived.Test.YtnbkmkeiophjoaaK0
import Derived.Test.YtnbkmkeiophjoaaMatZ
import Derived.Test.YtnbkmkeiophjoaaMI
import Derived.Test.YtnbkmkeiophjoaaGrsW
import Derived.Test.YtnbkmkeiophjoaaGrsU
namespace Go.Proofs.Ytnbkmkeiophjoaa
open Go.RowKit Cw
attribute [local go_sem] Oper.semAt_some

theorem dup_step {l : List Int} {k : Nat} (hk : k < l.length) {x : Int} (hx : l[k]?.getD 0 = x) : decide (¬ (l.take (k + 1)).Nodup) = (decide (¬ (l.take k).Nodup) || decide (x ∈ l.take k)) := by
  rw [Bool.eq_iff_iff]
  simp only [Bool.or_eq_true, decide_eq_true_iff]
  constructor
  · intro h
    by_cases h1 : (l.take k).Nodup
    · right
      refine Classical.byContradiction fun h2 => h (take_succ_nodup hk h1 (by rw [hx]; exact h2))
    · exact .inl h1
  · rintro (h | h) h2
    · exact h (List.Pairwise.sublist (by rw [List.take_succ_eq_append_getElem hk]; exact List.sublist_append_left _ _) h2)
    · rw [List.take_succ_eq_append_getElem hk, List.nodup_append] at h2
      rw [List.getElem?_eq_getElem hk, Option.getD_some] at hx
      exact h2.2.2 _ h _ (List.mem_singleton.2 rfl) hx.symm

set_option maxRecDepth 100000 in
set_option maxHeartbeats 8000000 in
theorem punL_err (P M K : Int) (ml pts mul : List Int) (A A1 A2 : Option Addr) (c c1 c2 : Nat) (l1 : List Int) (Aa : Option Addr) (ca : Nat) (E0 : Int) (w : World)
    (hPn : ∀ W, Below w.heap.size w W → l1.length ≤ 30 → Calls Try.prog 48 #[.agg #[.int .i64 P, .int .i64 M, .slice A ml.length c, .int .i64 K, .slice A1 pts.length c1, .slice A2 mul.length c2], .slice Aa l1.length ca] W fun e W' => e = .returned (.tuple #[.agg #[.int .i64 0, .int .i64 0, .slice none 0 0, .int .i64 0, .slice none 0 0, .slice none 0 0], .int .i64 (punErr E0 pts.length l1)]) ∧ Below W.heap.size W W')
    (hCk : ∀ W, Below w.heap.size w W → Calls Try.prog 23 #[.agg #[.int .i64 P, .int .i64 M, .slice A ml.length c, .int .i64 K, .slice A1 pts.length c1, .slice A2 mul.length c2]] W fun e W' => e = .returned (.int .i64 E0) ∧ Below W.heap.size W W')
    (hE : punErr E0 pts.length l1 ≠ 0) (hra : Rd w w.heap.size Aa l1) (h1 : pts.length ≤ c1 ∧ c1 ≤ maxLen) (_h3 : l1.length ≤ ca) (h3' : ca ≤ maxLen) :
    Calls Try.prog 14 #[.agg #[.int .i64 P, .int .i64 M, .slice A ml.length c, .int .i64 K, .slice A1 pts.length c1, .slice A2 mul.length c2], .slice Aa l1.length ca] w (LawEnd w) := by
  have hA := fun W => Lib.hid (alive_any W)
  have hD := fun W h g => Lib.hid (hPn W h g)
  have hC := fun W h => Lib.hid (hCk W h)
  have hZ0 := fun W => Lib.hid (Zero18_zero W)
  have hm1 := h1.1; have hm2 := h1.2; have hm3 := h3'
  unfold maxLen at hm2 hm3
  clear hPn hCk
  replace hE := Lib.hid hE
  have k0 := Lib.hid (alloc6 w (.int .i64 P) (.int .i64 M) (.slice A ml.length c) (.int .i64 K) (.slice A1 pts.length c1) (.slice A2 mul.length c2) 27)
  have hB : Below w.heap.size w (w.alloc (.cells #[.int .i64 P, .int .i64 M, .slice A ml.length c, .int .i64 K, .slice A1 pts.length c1, .slice A2 mul.length c2] 27)) := (Below.refl _ _).alloc (Nat.le_refl _) _
  go_enter Try.func14, Try.ntmps14
  go_wp2_with (fail)
  refine (hA _).out.mono ?_
  rintro e w1 ⟨rfl, hb1⟩
  have kk1 := Lib.hid (keep6 hb1 (by simp) k0.out)
  have hB1 := hB.trans (hb1.mono hB.size)
  have hlt1 : w.heap.size < w1.heap.size := by have := hb1.size; simp only [World.size_alloc] at this; omega
  obtain ⟨q0, q1, q2, q3, q4, q5⟩ := kk1.out
  by_cases h24 : 24 < pts.length
  · go_wp2_with (fail)
    go_ret
    exact ⟨rfl, hB1⟩
  by_cases h30 : 30 < l1.length
  · go_wp2_with (fail)
    go_ret
    exact ⟨rfl, hB1⟩
  go_wp2_with (fail)
  (with_reducible refine (hD w1 hB1 (by omega)).out.mono ?_)
  rintro e w2 ⟨rfl, hb2⟩
  have hB2 := hB1.trans (hb2.mono hB1.size)
  have kk2 := Lib.hid (keep6 hb2 hlt1 kk1.out)
  have hlt2 : w.heap.size < w2.heap.size := Nat.lt_of_lt_of_le hlt1 hb2.size
  obtain ⟨X3, hX3⟩ : ∃ X3, X3 = w2.alloc (.cells #[.int .i64 0, .int .i64 0, .slice none 0 0, .int .i64 0, .slice none 0 0, .slice none 0 0] 27) := ⟨_, rfl⟩
  have hb3 : Below w2.heap.size w2 X3 := by rw [hX3]; exact (Below.refl _ _).alloc (Nat.le_refl _) _
  have k6 := alloc6 w2 (.int .i64 0) (.int .i64 0) (.slice none 0 0) (.int .i64 0) (.slice none 0 0) (.slice none 0 0) 27
  have hlt3 : w2.heap.size < X3.heap.size := by rw [hX3]; simp
  rw [← hX3] at k6
  replace hX3 := Lib.hid hX3
  replace k6 := Lib.hid k6
  have hB3 := hB2.trans (hb3.mono hB2.size)
  clear q0 q1 q2 q3 q4 q5
  obtain ⟨q0, q1, q2, q3, q4, q5⟩ := kk2.out
  go_wp2_with (fail)
  rw [← hX3.out]
  (with_reducible refine (hC X3 hB3).out.mono ?_)
  rintro e w4 ⟨rfl, hb4⟩
  have k64 := Lib.hid (keep6 hb4 hlt3 k6.out)
  have hb24 := hb3.trans (hb4.mono hb3.size)
  have hB4 := hB3.trans (hb4.mono hB3.size)
  have kk4 := Lib.hid (keep6 hb24 hlt2 kk2.out)
  have hlt4 : w.heap.size < w4.heap.size := Nat.lt_of_lt_of_le hlt2 hb24.size
  have hlt24 : w2.heap.size < w4.heap.size := Nat.lt_of_lt_of_le hlt3 hb4.size
  have hmk := mk_bools pts.length (by omega)
  have hbb5 := BB.newz w4 pts.length
  obtain ⟨X5, hX5⟩ : ∃ X5, X5 = w4.alloc (.cells (Array.replicate pts.length (Value.bool false)) 4) := ⟨_, rfl⟩
  have hb5 : Below w4.heap.size w4 X5 := by rw [hX5]; exact (Below.refl _ _).alloc (Nat.le_refl _) _
  have hlt5 : w4.heap.size < X5.heap.size := by rw [hX5]; simp
  rw [← hX5] at hbb5
  replace hbb5 := Lib.hid hbb5
  replace hX5 := Lib.hid hX5
  have hB5 := hB4.trans (hb5.mono hB4.size)
  have kk5 := Lib.hid (keep6 hb5 hlt4 kk4.out)
  have k65 := Lib.hid (keep6 hb5 hlt24 k64.out)
  have hra5 := (hra.below hB5).more hB5.size
  clear q0 q1 q2 q3 q4 q5
  obtain ⟨q0, q1, q2, q3, q4, q5⟩ := kk4.out
  go_wp2_with (fail)
  rw [← hX5.out]
  clear q0 q1 q2 q3 q4 q5 hmk
  go_loop [9, 7] (fun i e => ∃ k : Nat, k ≤ l1.length ∧ i = .int .i64 k ∧ ∃ x : Int, e = .int .i64 x ∧ Hid ((E0 ≠ 0 ∧ x = E0) ∨ (E0 = 0 ∧ x = 6 ∧ ¬ ∀ y ∈ l1, 0 ≤ y ∧ y < (pts.length : Int)) ∨ (E0 = 0 ∧ x = 0 ∧ ∀ y ∈ l1.take k, 0 ≤ y ∧ y < (pts.length : Int)))) (fun i _ => l1.length - (intOf i).toNat)
  case atStart => exact ⟨0, by omega, rfl, E0, rfl, by by_cases h : E0 = 0; exact .inr (.inr ⟨h, h, fun y hy => by simp at hy⟩); exact .inl ⟨h, rfl⟩⟩
  case round =>
    obtain ⟨k, hk, rfl, x, rfl, hx⟩ := hrel
    rcases hx.out with ⟨h0, rfl⟩ | ⟨h0, rfl, hnr⟩ | ⟨h0, rfl, hrg⟩
    · have hxb : (x == 0) = false := by rw [beq_eq_false_iff_ne]; exact h0
      have hxb2 : (x != 0) = true := by rw [bne_iff_ne]; exact h0
      have hEE : punErr x pts.length l1 = x := if_pos h0
      replace h0 := Lib.hid h0
      rw [hEE]
      clear hE hEE hx
      go_wp2_with (fail)
      go_loop [11, 10] (fun i t => i = .int .i64 0 ∧ t = .bool false) (fun _ _ => 0)
      case atStart => exact ⟨rfl, rfl⟩
      case round =>
        obtain ⟨rfl, rfl⟩ := hrel
        obtain ⟨q0, q1, q2, q3, q4, q5⟩ := k65.out
        go_wp2_with (fail)
        (with_reducible refine (hZ0 X5).out.mono ?_)
        rintro e w5 ⟨rfl, hb5'⟩
        go_wp2_with (fail)
        go_ret
        exact ⟨by simp, hB5.trans (hb5'.mono hB5.size)⟩
    · have hEE : punErr E0 pts.length l1 = 6 := by unfold punErr; rw [if_neg (fun h => h h0), if_pos hnr]
      clear hnr h0
      rw [hEE]
      clear hE hEE hx
      go_wp2_with (fail)
      go_loop [11, 10] (fun i t => i = .int .i64 0 ∧ t = .bool false) (fun _ _ => 0)
      case atStart => exact ⟨rfl, rfl⟩
      case round =>
        obtain ⟨rfl, rfl⟩ := hrel
        obtain ⟨q0, q1, q2, q3, q4, q5⟩ := k65.out
        go_wp2_with (fail)
        (with_reducible refine (hZ0 X5).out.mono ?_)
        rintro e w5 ⟨rfl, hb5'⟩
        go_wp2_with (fail)
        go_ret
        exact ⟨by simp, hB5.trans (hb5'.mono hB5.size)⟩
    · clear hx
      subst h0
      by_cases hkm : k < l1.length
      · obtain ⟨ba, oa, rfl, hba, hca⟩ := hra5.at_ hkm
        obtain ⟨x, hx⟩ : ∃ x, x = l1[k]?.getD 0 := ⟨_, rfl⟩
        rw [← hx] at hca
        have hxm : x ∈ l1 := by rw [hx]; exact mem_get hkm
        have hk0 : (0 : Int) ≤ (k : Int) := by omega
        have hk1 : (k : Int) < (l1.length : Int) := by omega
        replace hx := Lib.hid hx
        by_cases hx0 : x < 0
        · have hnr : Hid (¬ ∀ y ∈ l1, 0 ≤ y ∧ y < (pts.length : Int)) := fun h => by have := h x hxm; omega
          clear hrg
          go_wp2_with (fail)
          go_round
          case rel => exact ⟨k + 1, by omega, by go_num, 6, rfl, .inr (.inl ⟨by first | rfl | trivial, rfl, hnr.out⟩)⟩
          case measure => simp [intOf]; omega
        by_cases hx1 : (pts.length : Int) ≤ x
        · have hnr : Hid (¬ ∀ y ∈ l1, 0 ≤ y ∧ y < (pts.length : Int)) := fun h => by have := h x hxm; omega
          clear hrg
          go_wp2_with (fail)
          go_round
          case rel => exact ⟨k + 1, by omega, by go_num, 6, rfl, .inr (.inl ⟨by first | rfl | trivial, rfl, hnr.out⟩)⟩
          case measure => simp [intOf]; omega
        have hrg2 : Hid (∀ y ∈ l1.take (k + 1), 0 ≤ y ∧ y < (pts.length : Int)) := fun z hz => by
          rcases (take_succ_mem hkm z).1 hz with h3 | h3
          · exact hrg z h3
          · rw [h3, ← hx.out]; omega
        clear hrg
        go_wp2_with (fail)
        go_round
        case rel => exact ⟨k + 1, by omega, by go_num, 0, rfl, .inr (.inr ⟨by first | rfl | trivial, rfl, hrg2.out⟩)⟩
        case measure => simp [intOf]; omega
      · obtain rfl : k = l1.length := by omega
        rw [List.take_length] at hrg
        replace hrg := Lib.hid hrg
        go_wp2_with (fail)
        go_loopw [11, 10] (fun i t wr => ∃ k : Nat, k ≤ l1.length ∧ i = .int .i64 k ∧ t = .bool (decide (¬ (l1.take k).Nodup)) ∧ Hid (BB wr w4.heap.size pts.length (fun i => decide ((i : Int) ∈ l1.take k))) ∧ Below w4.heap.size w4 wr ∧ w4.heap.size < wr.heap.size) (fun i _ _ => l1.length - (intOf i).toNat)
        case atStart => exact ⟨0, by omega, rfl, by simp, by rw [show (fun i : Nat => decide ((i : Int) ∈ l1.take 0)) = fun _ => false from funext fun i => by simp]; exact hbb5, hb5, hlt5⟩
        case round =>
          obtain ⟨k, hk, rfl, rfl, hbb, hbw, hlw⟩ := hrel
          obtain ⟨w6, rfl⟩ : ∃ w6 : World, w6 = wr := ⟨_, rfl⟩
          have hB6 := hB4.trans (hbw.mono hB4.size)
          by_cases hkm : k < l1.length
          · obtain ⟨ba, oa, rfl, hba, hca⟩ := hra.at_ hkm
            have hcb := (hB6.cell (p := ⟨ba, oa + k, none⟩) hba).trans hca
            obtain ⟨xn, hxn⟩ : ∃ xn : Nat, l1[k]?.getD 0 = (xn : Int) := ⟨(l1[k]?.getD 0).toNat, by have := hrg.out _ (mem_get hkm); omega⟩
            have hxl : xn < pts.length := by have := hrg.out _ (mem_get hkm); omega
            rw [hxn] at hcb
            have hcs := hbb.out.cell hxl
            have hf := hbb.out.frozen xn
            have hx0 : (0 : Int) ≤ (xn : Int) := by omega
            have hx1 : (xn : Int) < (pts.length : Int) := by omega
            have hk0 : (0 : Int) ≤ (k : Int) := by omega
            have hk1 : (k : Int) < (l1.length : Int) := by omega
            have htw := Lib.hid (dup_step hkm hxn)
            have hbb2 := Lib.hid (hbb.out.set_ xn true)
            rw [seen_step hkm hxn] at hbb2
            have hbw2 : Below w4.heap.size w4 (w6.setCell ⟨w4.heap.size, xn, none⟩ (.bool true)) := hbw.setCell (p := ⟨w4.heap.size, xn, none⟩) (Nat.le_refl _) _
            have hlw2 : w4.heap.size < (w6.setCell ⟨w4.heap.size, xn, none⟩ (.bool true)).heap.size := Nat.lt_of_lt_of_le hlw (grown_set _ _ _).size
            replace hxn := Lib.hid hxn
            generalize decide ((xn : Int) ∈ l1.take k) = de at *
            generalize decide (¬ (l1.take k).Nodup) = be at *
            clear hca
            cases be
            · go_wp2_with (fail)
              go_roundw
              case rel => exact ⟨k + 1, by omega, by go_num, by rw [htw.out]; simp, hbb2, hbw2, hlw2⟩
              case measure => simp [intOf]; omega
            · go_wp2_with (fail)
              go_roundw
              case rel => exact ⟨k + 1, by omega, by go_num, by rw [htw.out]; simp, hbb2, hbw2, hlw2⟩
              case measure => simp [intOf]; omega
          · obtain rfl : k = l1.length := by omega
            rw [List.take_length] at hbb ⊢
            have kk6 := Lib.hid (keep6 hbw hlt4 kk4.out)
            have k66 := Lib.hid (keep6 hbw hlt24 k64.out)
            obtain ⟨q0, q1, q2, q3, q4, q5⟩ := k66.out
            obtain ⟨s0, s1, s2, s3, s4, s5⟩ := kk6.out
            by_cases hd : l1.Nodup
            · have hln : l1.length = pts.length := Classical.byContradiction fun h => hE.out (punErr_ok rfl hrg.out hd h)
              have hEE : punErr 0 pts.length l1 = 4 := punErr_len rfl hrg.out hd hln
              have hlb : ((l1.length : Int) == (pts.length : Int)) = true := by rw [beq_iff_eq]; omega
              rw [hEE, decide_eq_false (p := ¬ l1.Nodup) (fun h => h hd)]
              clear hEE hE hd hln
              go_wp2_with (fail)
              (with_reducible refine (hZ0 w6).out.mono ?_)
              rintro e w7 ⟨rfl, hb7⟩
              go_wp2_with (fail)
              go_ret
              exact ⟨by simp, hB6.trans (hb7.mono hB6.size)⟩
            · have hEE : punErr 0 pts.length l1 = 18 := punErr_dup rfl hrg.out hd
              rw [hEE, decide_eq_true (p := ¬ l1.Nodup) hd]
              clear hEE hE hd
              go_wp2_with (fail)
              (with_reducible refine (hZ0 w6).out.mono ?_)
              rintro e w7 ⟨rfl, hb7⟩
              go_wp2_with (fail)
              go_ret
              exact ⟨by simp, hB6.trans (hb7.mono hB6.size)⟩

set_option maxHeartbeats 1000000 in
theorem puncturesL_bad (P M K : Int) (ml pts mul : List Int) (A A1 A2 : Option Addr) (c c1 c2 : Nat) (l1 : List Int) (Aa : Option Addr) (ca : Nat) (w : World) (hP : I64 P) (hM : I64 M) (hl : ml.length ≤ maxLen) (hr : Rd w w.heap.size A ml) (hb : ¬ Good P M ml) (_hK : I64 K) (h1 : pts.length ≤ c1 ∧ c1 ≤ maxLen) (_h2 : mul.length ≤ c2 ∧ c2 ≤ maxLen) (_hi : ∀ x ∈ pts, I64 x) (_hj : ∀ x ∈ mul, I64 x) (_hr1 : Rd w w.heap.size A1 pts) (_hr2 : Rd w w.heap.size A2 mul)
    (h3 : l1.length ≤ ca) (h3' : ca ≤ maxLen) (hr3 : Rd w w.heap.size Aa l1) :
    Calls Try.prog 14 #[.agg #[.int .i64 P, .int .i64 M, .slice A ml.length c, .int .i64 K, .slice A1 pts.length c1, .slice A2 mul.length c2], .slice Aa l1.length ca] w (LawEnd w) := by
  have hE : punErr 1 pts.length l1 = 1 := if_pos (by decide)
  refine punL_err P M K ml pts mul A A1 A2 c c1 c2 l1 Aa ca 1 w (fun W hb1 _ => ?_) (fun W hb1 => ?_) (by rw [hE]; decide) hr3 h1 h3 h3'
  · rw [hE]; exact gPun_bad P M K ml pts mul A A1 A2 c c1 c2 l1 Aa ca W hP hM hl ((hr.below hb1).more hb1.size) hb
  · exact Chk18_bad P M K ml pts mul A A1 A2 c c1 c2 W hP hM hl ((hr.below hb1).more hb1.size) hb

end Go.Proofs.Ytnbkmkeiophjoaa
