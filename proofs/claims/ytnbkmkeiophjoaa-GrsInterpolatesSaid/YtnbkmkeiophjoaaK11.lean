/- GrsInterpolates: the walk. -/
import Derived.Test.YtnbkmkeiophjoaaK03
import Derived.Test.YtnbkmkeiophjoaaMatZ
import Derived.Test.YtnbkmkeiophjoaaMI
import Derived.Test.YtnbkmkeiophjoaaGrsQ
import Derived.Test.YtnbkmkeiophjoaaIntp
namespace Go.Proofs.Ytnbkmkeiophjoaa
open Go.RowKit Cw
attribute [local go_sem] Oper.semAt_some

set_option maxHeartbeats 2000000 in
theorem interpL_bad (P M K : Int) (ml pts mul : List Int) (A A1 A2 : Option Addr) (c c1 c2 : Nat) (l1 : List Int) (Aa : Option Addr) (ca : Nat) (l2 : List Int) (Av : Option Addr) (cv : Nat) (w : World) (hP : I64 P) (hM : I64 M) (hl : ml.length ≤ maxLen) (hr : Rd w w.heap.size A ml) (hb : ¬ Good P M ml) (_hK : I64 K) (_h1 : pts.length ≤ c1 ∧ c1 ≤ maxLen) (_h2 : mul.length ≤ c2 ∧ c2 ≤ maxLen) (_hi : ∀ x ∈ pts, I64 x) (_hj : ∀ x ∈ mul, I64 x) (_hr1 : Rd w w.heap.size A1 pts) (_hr2 : Rd w w.heap.size A2 mul)
    (_h3 : l1.length ≤ ca) (_h3' : ca ≤ maxLen) (_hra : Rd w w.heap.size Aa l1) (_h4 : l2.length ≤ cv) (_h4' : cv ≤ maxLen) (_hrv : Rd w w.heap.size Av l2) :
    Calls Try.prog 11 #[.agg #[.int .i64 P, .int .i64 M, .slice A ml.length c, .int .i64 K, .slice A1 pts.length c1, .slice A2 mul.length c2], .slice Aa l1.length ca, .slice Av l2.length cv] w (LawEnd w) := by
  have hA := fun W => Lib.hid (alive_any W)
  have hG := fun W h => Lib.hid (good18_bad P M K ml pts mul A A1 A2 c c1 c2 W hP hM hl h hb)
  have k0 := Lib.hid (alloc6 w (.int .i64 P) (.int .i64 M) (.slice A ml.length c) (.int .i64 K) (.slice A1 pts.length c1) (.slice A2 mul.length c2) 27)
  have hB : Below w.heap.size w (w.alloc (.cells #[.int .i64 P, .int .i64 M, .slice A ml.length c, .int .i64 K, .slice A1 pts.length c1, .slice A2 mul.length c2] 27)) := (Below.refl _ _).alloc (Nat.le_refl _) _
  clear hP hM hl hb
  go_enter Try.func11, Try.ntmps11
  go_wp2_with (fail)
  refine (hA _).out.mono ?_
  rintro e w1 ⟨rfl, hb1⟩
  have kk1 := Lib.hid (keep6 hb1 (by simp) k0.out)
  have hB1 := hB.trans (hb1.mono hB.size)
  have hlt1 : w.heap.size < w1.heap.size := by have := hb1.size; simp only [World.size_alloc] at this; omega
  obtain ⟨q0, q1, q2, q3, q4, q5⟩ := kk1.out
  go_wp2_with (fail)
  (with_reducible refine (hG w1 ((hr.below hB1).more hB1.size)).out.mono ?_)
  rintro e w2 ⟨rfl, hb2⟩
  go_wp2_with (fail)
  go_ret
  exact ⟨rfl, hB1.trans (hb2.mono hB1.size)⟩

set_option maxHeartbeats 2000000 in
theorem interpL_not (D : Desc) (K : Int) (pts mul : List Int) (A A1 A2 : Option Addr) (c c1 c2 : Nat) (l1 : List Int) (Aa : Option Addr) (ca : Nat) (l2 : List Int) (Av : Option Addr) (cv : Nat) (w : World) (hr : Rd w w.heap.size A (modL D)) (hb : Good D.p D.m (modL D)) (h2 : mul.length ≤ maxLen) (hr1 : Rd w w.heap.size A1 pts) (hr2 : Rd w w.heap.size A2 mul) (hgb : goodB D K pts mul = false) :
    Calls Try.prog 11 #[.agg #[.int .i64 D.p, .int .i64 D.m, .slice A D.mod.length c, .int .i64 K, .slice A1 pts.length c1, .slice A2 mul.length c2], .slice Aa l1.length ca, .slice Av l2.length cv] w (LawEnd w) := by
  have hA := fun W => Lib.hid (alive_any W)
  have hG := fun W h a b => good18_D D K pts mul A A1 A2 c c1 c2 W h hb a b h2
  rw [hgb] at hG
  replace hG := fun W h a b => Lib.hid (hG W h a b)
  have k0 := Lib.hid (alloc6 w (.int .i64 D.p) (.int .i64 D.m) (.slice A D.mod.length c) (.int .i64 K) (.slice A1 pts.length c1) (.slice A2 mul.length c2) 27)
  have hB : Below w.heap.size w (w.alloc (.cells #[.int .i64 D.p, .int .i64 D.m, .slice A D.mod.length c, .int .i64 K, .slice A1 pts.length c1, .slice A2 mul.length c2] 27)) := (Below.refl _ _).alloc (Nat.le_refl _) _
  clear hb hgb
  go_enter Try.func11, Try.ntmps11
  go_wp2_with (fail)
  refine (hA _).out.mono ?_
  rintro e w1 ⟨rfl, hb1⟩
  have kk1 := Lib.hid (keep6 hb1 (by simp) k0.out)
  have hB1 := hB.trans (hb1.mono hB.size)
  have hlt1 : w.heap.size < w1.heap.size := by have := hb1.size; simp only [World.size_alloc] at this; omega
  obtain ⟨q0, q1, q2, q3, q4, q5⟩ := kk1.out
  go_wp2_with (fail)
  (with_reducible refine (hG w1 ((hr.below hB1).more hB1.size) ((hr1.below hB1).more hB1.size) ((hr2.below hB1).more hB1.size)).out.mono ?_)
  rintro e w2 ⟨rfl, hb2⟩
  go_wp2_with (fail)
  go_ret
  exact ⟨rfl, hB1.trans (hb2.mono hB1.size)⟩

set_option maxRecDepth 100000 in
set_option maxHeartbeats 8000000 in
theorem interpL_good (D : Desc) (K : Int) (pts mul : List Int) (A A1 A2 : Option Addr) (c c1 c2 : Nat) (l1 : List Int) (Aa : Option Addr) (ca : Nat) (l2 : List Int) (Av : Option Addr) (cv : Nat) (w : World) (hr : Rd w w.heap.size A (modL D)) (hb : Good D.p D.m (modL D)) (_hK : I64 K) (h1 : pts.length ≤ c1 ∧ c1 ≤ maxLen) (h2 : mul.length ≤ c2 ∧ c2 ≤ maxLen) (_hi : ∀ x ∈ pts, I64 x) (_hj : ∀ x ∈ mul, I64 x) (hr1 : Rd w w.heap.size A1 pts) (hr2 : Rd w w.heap.size A2 mul)
    (h3 : l1.length ≤ ca) (h3' : ca ≤ maxLen) (hra : Rd w w.heap.size Aa l1) (h4 : l2.length ≤ cv) (h4' : cv ≤ maxLen) (hrv : Rd w w.heap.size Av l2) :
    Calls Try.prog 11 #[.agg #[.int .i64 D.p, .int .i64 D.m, .slice A D.mod.length c, .int .i64 K, .slice A1 pts.length c1, .slice A2 mul.length c2], .slice Aa l1.length ca, .slice Av l2.length cv] w (LawEnd w) := by
  cases hgb : goodB D K pts mul with
  | false => exact interpL_not D K pts mul A A1 A2 c c1 c2 l1 Aa ca l2 Av cv w hr hb (Nat.le_trans h2.1 h2.2) hr1 hr2 hgb
  | true =>
  obtain ⟨h24, hz⟩ := goodB_true hgb
  obtain ⟨hp1, hp64, hlen, -, -, -, -, hK0, hKn⟩ := gchkD_zero hz
  obtain ⟨kn, rfl⟩ : ∃ kn : Nat, K = kn := ⟨K.toNat, by omega⟩
  have hA := fun W => Lib.hid (alive_any W)
  have hG := fun W h a b => good18_D D kn pts mul A A1 A2 c c1 c2 W h hb a b (Nat.le_trans h2.1 h2.2)
  rw [hgb] at hG
  replace hG := fun W h a b => Lib.hid (hG W h a b)
  have hE := fun W d => Lib.hid (Elems18_any D l2 kn 3 A Av c cv W d (Nat.le_trans h4 h4'))
  have hEc := fun W a b d => gCode_D D kn pts mul A A1 A2 c c1 c2 W a hb b d h1.1 h1.2 (Nat.le_trans h2.1 h2.2)
  unfold GCodePost at hEc
  rw [hz, Int.toNat_natCast] at hEc
  replace hEc := fun W a b d => Lib.hid (hEc W a b d)
  have hml : (modL D).length ≤ maxLen := by have := D.hlen; have := D.m8; rw [modL_length, D.hlen]; unfold maxLen; split <;> omega
  have hm3 := h3'; have hm4 := h4'
  unfold maxLen at hm3 hm4
  have k0 := Lib.hid (alloc6 w (.int .i64 D.p) (.int .i64 D.m) (.slice A D.mod.length c) (.int .i64 (kn : Int)) (.slice A1 pts.length c1) (.slice A2 mul.length c2) 27)
  have hB : Below w.heap.size w (w.alloc (.cells #[.int .i64 D.p, .int .i64 D.m, .slice A D.mod.length c, .int .i64 (kn : Int), .slice A1 pts.length c1, .slice A2 mul.length c2] 27)) := (Below.refl _ _).alloc (Nat.le_refl _) _
  have hbH := Lib.hid hb
  replace hz := Lib.hid hz
  replace hlen := Lib.hid hlen
  replace hml := Lib.hid hml
  clear hb hgb
  go_enter Try.func11, Try.ntmps11
  go_wp2_with (fail)
  refine (hA _).out.mono ?_
  rintro e w1 ⟨rfl, hb1⟩
  have kk1 := Lib.hid (keep6 hb1 (by simp) k0.out)
  have hB1 := hB.trans (hb1.mono hB.size)
  have hlt1 : w.heap.size < w1.heap.size := by have := hb1.size; simp only [World.size_alloc] at this; omega
  obtain ⟨q0, q1, q2, q3, q4, q5⟩ := kk1.out
  go_wp2_with (fail)
  (with_reducible refine (hG w1 ((hr.below hB1).more hB1.size) ((hr1.below hB1).more hB1.size) ((hr2.below hB1).more hB1.size)).out.mono ?_)
  rintro e w2 ⟨rfl, hb2⟩
  have hB2 := hB1.trans (hb2.mono hB1.size)
  have kk2 := Lib.hid (keep6 hb2 hlt1 kk1.out)
  have hlt2 : w.heap.size < w2.heap.size := Nat.lt_of_lt_of_le hlt1 hb2.size
  clear q0 q1 q2 q3 q4 q5
  obtain ⟨q0, q1, q2, q3, q4, q5⟩ := kk2.out
  by_cases hlk : l1.length = kn
  rotate_left
  · have hlb : ((l1.length : Int) != (kn : Int)) = true := by rw [bne_iff_ne]; omega
    clear hlk
    go_wp2_with (fail)
    go_ret
    exact ⟨rfl, hB2⟩
  have hlb : ((l1.length : Int) != (kn : Int)) = false := by rw [bne_eq_false_iff_eq]; omega
  replace hlk := Lib.hid hlk
  by_cases hel : elErr D l2 kn 3 = 0
  rotate_left
  · have helb : (elErr D l2 kn 3 != 0) = true := by rw [bne_iff_ne]; exact hel
    clear hel
    go_wp2_with (fail)
    (with_reducible refine (hE w2 ((hrv.below hB2).more hB2.size)).out.mono ?_)
    rintro e w3 ⟨rfl, hb3⟩
    go_wp2_with (fail)
    go_ret
    exact ⟨rfl, hB2.trans (hb3.mono hB2.size)⟩
  rw [hel] at hE
  have hl2 : l2.length = kn ∧ elB D l2 = true := by
    unfold elErr at hel
    by_cases g1 : (l2.length : Int) ≠ kn
    · rw [if_pos g1] at hel; cases hel
    rw [if_neg g1] at hel
    cases h : elB D l2 with
    | true => exact ⟨by omega, rfl⟩
    | false => rw [if_pos h] at hel; cases hel
  replace hel := Lib.hid hel
  replace hl2 := Lib.hid hl2
  go_wp2_with (fail)
  (with_reducible refine (hE w2 ((hrv.below hB2).more hB2.size)).out.mono ?_)
  rintro e w4 ⟨rfl, hb4⟩
  have hB4 := hB2.trans (hb4.mono hB2.size)
  have kk4 := Lib.hid (keep6 hb4 hlt2 kk2.out)
  have hlt4 : w.heap.size < w4.heap.size := Nat.lt_of_lt_of_le hlt2 hb4.size
  have hmk := mk_bools pts.length (by omega)
  have hbb5 := BB.newz w4 pts.length
  obtain ⟨X5, hX5⟩ : ∃ X5, X5 = w4.alloc (.cells (Array.replicate pts.length (Value.bool false)) 4) := ⟨_, rfl⟩
  have hb5 : Below w4.heap.size w4 X5 := by rw [hX5]; exact (Below.refl _ _).alloc (Nat.le_refl _) _
  have hlt5 : w4.heap.size < X5.heap.size := by rw [hX5]; simp
  rw [← hX5] at hbb5
  replace hbb5 := Lib.hid hbb5
  replace hX5 := Lib.hid hX5
  clear q0 q1 q2 q3 q4 q5
  obtain ⟨q0, q1, q2, q3, q4, q5⟩ := kk4.out
  go_wp2_with (fail)
  rw [← hX5.out]
  clear q0 q1 q2 q3 q4 q5 hmk hE hG
  go_loopw [47] (fun i wr => ∃ k : Nat, k ≤ l1.length ∧ i = .int .i64 k ∧ (∀ y ∈ l1.take k, 0 ≤ y ∧ y < (pts.length : Int)) ∧ (l1.take k).Nodup ∧ Hid (BB wr w4.heap.size pts.length (fun i => decide ((i : Int) ∈ l1.take k))) ∧ Below w4.heap.size w4 wr ∧ w4.heap.size < wr.heap.size) (fun i _ => l1.length - (intOf i).toNat)
  case atStart => exact ⟨0, by omega, rfl, fun y hy => by simp at hy, by simp, by rw [show (fun i : Nat => decide ((i : Int) ∈ l1.take 0)) = fun _ => false from funext fun i => by simp]; exact hbb5, hb5, hlt5⟩
  case round =>
    obtain ⟨k, hk, rfl, hrg, hnd, hbb, hbw, hlw⟩ := hrel
    obtain ⟨w6, rfl⟩ : ∃ w6 : World, w6 = wr := ⟨_, rfl⟩
    have hB6 := hB4.trans (hbw.mono hB4.size)
    clear hbb5 hb5 hlt5
    by_cases hkm : k < l1.length
    · obtain ⟨ba, oa, rfl, hba, hca⟩ := hra.at_ hkm
      have hcb := (hB6.cell (p := ⟨ba, oa + k, none⟩) hba).trans hca
      obtain ⟨x, hx⟩ : ∃ x, x = l1[k]?.getD 0 := ⟨_, rfl⟩
      rw [← hx] at hcb
      have hk0 : (0 : Int) ≤ (k : Int) := by omega
      have hk1 : (k : Int) < (l1.length : Int) := by omega
      clear hca
      by_cases hx0 : x < 0
      · clear hrg hnd hx
        go_wp2_with (fail)
        go_ret
        exact ⟨rfl, hB6⟩
      by_cases hx1 : (pts.length : Int) ≤ x
      · clear hrg hnd hx
        go_wp2_with (fail)
        go_ret
        exact ⟨rfl, hB6⟩
      obtain ⟨xn, rfl⟩ : ∃ xn : Nat, x = (xn : Int) := ⟨x.toNat, by omega⟩
      have hxl : xn < pts.length := by omega
      have hx2 : (0 : Int) ≤ (xn : Int) := by omega
      have hx3 : (xn : Int) < (pts.length : Int) := by omega
      have hcs := hbb.out.cell hxl
      have hf := hbb.out.frozen xn
      by_cases hd : (xn : Int) ∈ l1.take k
      · rw [decide_eq_true hd] at hcs
        clear hrg hnd hx hd
        go_wp2_with (fail)
        go_ret
        exact ⟨rfl, hB6⟩
      rw [decide_eq_false hd] at hcs
      have hbb2 := Lib.hid (hbb.out.set_ xn true)
      rw [seen_step hkm hx.symm] at hbb2
      have hnd2 := Lib.hid (take_succ_nodup hkm hnd (by rw [← hx]; exact hd))
      have hrg2 : Hid (∀ y ∈ l1.take (k + 1), 0 ≤ y ∧ y < (pts.length : Int)) := fun z hz => by
        rcases (take_succ_mem hkm z).1 hz with h3 | h3
        · exact hrg z h3
        · rw [h3, ← hx]; omega
      have hbw2 : Below w4.heap.size w4 (w6.setCell ⟨w4.heap.size, xn, none⟩ (.bool true)) := hbw.setCell (p := ⟨w4.heap.size, xn, none⟩) (Nat.le_refl _) _
      have hlw2 : w4.heap.size < (w6.setCell ⟨w4.heap.size, xn, none⟩ (.bool true)).heap.size := Nat.lt_of_lt_of_le hlw (grown_set _ _ _).size
      clear hd hnd hrg hx
      go_wp2_with (fail)
      go_roundw
      case rel => exact ⟨k + 1, by omega, by go_num, hrg2.out, hnd2.out, hbb2, hbw2, hlw2⟩
      case measure => simp [intOf]; omega
    · obtain rfl : k = l1.length := by omega
      rw [List.take_length] at hrg hnd
      replace hrg := Lib.hid hrg
      replace hnd := Lib.hid hnd
      have kk6 := Lib.hid (keep6 hbw hlt4 kk4.out)
      have hlt6 : w.heap.size < w6.heap.size := Nat.lt_trans hlt4 hlw
      obtain ⟨q0, q1, q2, q3, q4, q5⟩ := kk6.out
      clear hbb
      go_wp2_with (fail)
      (with_reducible refine (hEc w6 ((hr.below hB6).more hB6.size) ((hr1.below hB6).more hB6.size) ((hr2.below hB6).more hB6.size)).out.mono ?_)
      rintro e w7 ⟨hb7, ⟨hne, -⟩ | ⟨-, F, hF, A8, c8, Al8, rfl, hr8, hrm8⟩⟩
      · exact absurd rfl hne
      subst hF
      clear q0 q1 q2 q3 q4 q5
      have hrk := gM_rank hz.out
      rw [Int.toNat_natCast] at hrk
      rw [hrk] at hrm8 ⊢
      have hCo := fun W a b d => Lib.hid (Code18_any F kn pts mul A A1 A2 c c1 c2 W a b d hlen.out hp64 (by omega))
      rw [hrk] at hCo
      have hSa := fun A6 A9 c6 c9 W a b d e' => (Same12_eq F.p F.m pts.length (modL F.toDesc) kn (rowsL F.toDesc pts.length (elS kn (gM F.toDesc pts mul) pts.length).1) A8 A6 Al8 A9 c8 c6 kn c9 W a b hml.out d e' (by omega) (fun i _ => by rw [rowsL, rowL_length]; omega))
      rw [modL_length] at hSa
      replace hSa := fun A6 A9 c6 c9 W a b d e' => Lib.hid (hSa A6 A9 c6 c9 W a b d e')
      have hB7 := hB6.trans (hb7.mono hB6.size)
      have hlt7 : w.heap.size < w7.heap.size := Nat.lt_of_lt_of_le hlt6 hb7.size
      have kk7 := Lib.hid (keep6 hb7 hlt6 kk6.out)
      obtain ⟨X8, hX8⟩ : ∃ X8, X8 = w7.alloc (.cells #[.int .i64 F.p, .int .i64 F.m, .slice A8 F.mod.length c8, .int .i64 pts.length, .slice Al8 kn kn] 55) := ⟨_, rfl⟩
      have hb8 : Below w7.heap.size w7 X8 := by rw [hX8]; exact (Below.refl _ _).alloc (Nat.le_refl _) _
      have k8 := Five.new w7 (.int .i64 F.p) (.int .i64 F.m) (.slice A8 F.mod.length c8) (.int .i64 pts.length) (.slice Al8 kn kn) 55
      have hlt8 : w7.heap.size < X8.heap.size := by rw [hX8]; simp
      rw [← hX8] at k8
      replace hX8 := Lib.hid hX8
      have hcc : Hid ((X8.cell? ⟨w.heap.size, 0, none⟩ = some (.int .i64 F.p) ∧ X8.cell? ⟨w.heap.size, 1, none⟩ = some (.int .i64 F.m) ∧ X8.cell? ⟨w.heap.size, 2, none⟩ = some (.slice A F.mod.length c) ∧ X8.cell? ⟨w.heap.size, 3, none⟩ = some (.int .i64 (kn : Int)) ∧ X8.cell? ⟨w.heap.size, 4, none⟩ = some (.slice A1 pts.length c1) ∧ X8.cell? ⟨w.heap.size, 5, none⟩ = some (.slice A2 mul.length c2)) ∧ X8.cell? ⟨w7.heap.size, 0, none⟩ = some (.int .i64 F.p) ∧ X8.cell? ⟨w7.heap.size, 1, none⟩ = some (.int .i64 F.m) ∧ X8.cell? ⟨w7.heap.size, 2, none⟩ = some (.slice A8 F.mod.length c8) ∧ X8.cell? ⟨w7.heap.size, 3, none⟩ = some (.int .i64 pts.length) ∧ X8.cell? ⟨w7.heap.size, 4, none⟩ = some (.slice Al8 kn kn)) := ⟨keep6 hb8 hlt7 kk7.out, k8.1, k8.2.1, k8.2.2.1, k8.2.2.2.1, k8.2.2.2.2.1⟩
      have hk9 : ∀ {W W' : World}, Below W.heap.size W W' → X8.heap.size ≤ W.heap.size → Hid ((W.cell? ⟨w.heap.size, 0, none⟩ = some (.int .i64 F.p) ∧ W.cell? ⟨w.heap.size, 1, none⟩ = some (.int .i64 F.m) ∧ W.cell? ⟨w.heap.size, 2, none⟩ = some (.slice A F.mod.length c) ∧ W.cell? ⟨w.heap.size, 3, none⟩ = some (.int .i64 (kn : Int)) ∧ W.cell? ⟨w.heap.size, 4, none⟩ = some (.slice A1 pts.length c1) ∧ W.cell? ⟨w.heap.size, 5, none⟩ = some (.slice A2 mul.length c2)) ∧ W.cell? ⟨w7.heap.size, 0, none⟩ = some (.int .i64 F.p) ∧ W.cell? ⟨w7.heap.size, 1, none⟩ = some (.int .i64 F.m) ∧ W.cell? ⟨w7.heap.size, 2, none⟩ = some (.slice A8 F.mod.length c8) ∧ W.cell? ⟨w7.heap.size, 3, none⟩ = some (.int .i64 pts.length) ∧ W.cell? ⟨w7.heap.size, 4, none⟩ = some (.slice Al8 kn kn)) → Hid ((W'.cell? ⟨w.heap.size, 0, none⟩ = some (.int .i64 F.p) ∧ W'.cell? ⟨w.heap.size, 1, none⟩ = some (.int .i64 F.m) ∧ W'.cell? ⟨w.heap.size, 2, none⟩ = some (.slice A F.mod.length c) ∧ W'.cell? ⟨w.heap.size, 3, none⟩ = some (.int .i64 (kn : Int)) ∧ W'.cell? ⟨w.heap.size, 4, none⟩ = some (.slice A1 pts.length c1) ∧ W'.cell? ⟨w.heap.size, 5, none⟩ = some (.slice A2 mul.length c2)) ∧ W'.cell? ⟨w7.heap.size, 0, none⟩ = some (.int .i64 F.p) ∧ W'.cell? ⟨w7.heap.size, 1, none⟩ = some (.int .i64 F.m) ∧ W'.cell? ⟨w7.heap.size, 2, none⟩ = some (.slice A8 F.mod.length c8) ∧ W'.cell? ⟨w7.heap.size, 3, none⟩ = some (.int .i64 pts.length) ∧ W'.cell? ⟨w7.heap.size, 4, none⟩ = some (.slice Al8 kn kn)) := fun {W W'} hbb hss h => by
        have hx0 : w7.heap.size < W.heap.size := Nat.lt_of_lt_of_le hlt8 hss
        obtain ⟨ua, u0, u1, u2, u3, u4⟩ := h.out
        exact Lib.hid ⟨keep6 hbb (Nat.lt_trans hlt7 hx0) ua, (hbb.cell (p := ⟨w7.heap.size, 0, none⟩) hx0).trans u0, (hbb.cell (p := ⟨w7.heap.size, 1, none⟩) hx0).trans u1, (hbb.cell (p := ⟨w7.heap.size, 2, none⟩) hx0).trans u2, (hbb.cell (p := ⟨w7.heap.size, 3, none⟩) hx0).trans u3, (hbb.cell (p := ⟨w7.heap.size, 4, none⟩) hx0).trans u4⟩
      replace hk9 := fun {W W' : World} a b c => Lib.hid (@hk9 W W' a b c)
      have hB8 := hB7.trans (hb8.mono hB7.size)
      have hr88 := (hr8.below hb8).more hb8.size
      have hrm88 := (hrm8.below hb8).more hb8.size
      have hCo8 := hCo X8.drew ((hr.below hB8).more hB8.size).drew ((hr1.below hB8).more hB8.size).drew ((hr2.below hB8).more hB8.size).drew
      clear k8 hCo hr8 hrm8 hEc
      go_wp2_with (fail)
      rw [← hX8.out]
      refine wp_region_held_drew (S := fun w' => (w'.cell? ⟨w.heap.size, 0, none⟩ = some (.int .i64 F.p) ∧ w'.cell? ⟨w.heap.size, 1, none⟩ = some (.int .i64 F.m) ∧ w'.cell? ⟨w.heap.size, 2, none⟩ = some (.slice A F.mod.length c) ∧ w'.cell? ⟨w.heap.size, 3, none⟩ = some (.int .i64 (kn : Int)) ∧ w'.cell? ⟨w.heap.size, 4, none⟩ = some (.slice A1 pts.length c1) ∧ w'.cell? ⟨w.heap.size, 5, none⟩ = some (.slice A2 mul.length c2)) ∧ w'.cell? ⟨w7.heap.size, 0, none⟩ = some (.int .i64 F.p) ∧ w'.cell? ⟨w7.heap.size, 1, none⟩ = some (.int .i64 F.m) ∧ w'.cell? ⟨w7.heap.size, 2, none⟩ = some (.slice A8 F.mod.length c8) ∧ w'.cell? ⟨w7.heap.size, 3, none⟩ = some (.int .i64 pts.length) ∧ w'.cell? ⟨w7.heap.size, 4, none⟩ = some (.slice Al8 kn kn)) (by kernel_rfl) (by (try dsimp only); exact hcc.out) (fun hHeld => ?_)
      refine wpAnyH_take (i := 0) (oi := ⟨_, _, _, _, _, _⟩) (v := ?_) rfl (by kernel_rfl) (by kernel_rfl) (by kernel_rfl) (fun _ _ _ h => h) (Or.inl ⟨by rfl, ?_⟩) (by assumption) ?_
      rotate_left
      · intro w hSw; (try dsimp only at hSw); go_simp; try with_reducible rfl
      try simp only [Act.put, List.setIfInBounds_toArray, List.set_cons_zero, List.set_cons_succ]
      refine wpAnyH_take (i := 1) (oi := ⟨_, _, _, _, _, _⟩) (v := ?_) rfl (by kernel_rfl) (by kernel_rfl) (by kernel_rfl) (fun _ _ _ h => h) (Or.inl ⟨by rfl, ?_⟩) (by assumption) ?_
      rotate_left
      · intro w hSw; (try dsimp only at hSw); go_simp; try with_reducible rfl
      try simp only [Act.put, List.setIfInBounds_toArray, List.set_cons_zero, List.set_cons_succ]
      refine wpAnyH_take (i := 2) (oi := ⟨_, _, _, _, _, _⟩) (v := ?_) rfl (by kernel_rfl) (by kernel_rfl) (by kernel_rfl) (fun _ _ _ h => h) (Or.inl ⟨by rfl, ?_⟩) (by assumption) ?_
      rotate_left
      · intro w hSw; (try dsimp only at hSw); go_simp; try with_reducible rfl
      try simp only [Act.put, List.setIfInBounds_toArray, List.set_cons_zero, List.set_cons_succ]
      refine wpAnyH_take (i := 3) (oi := ⟨_, _, _, _, _, _⟩) (v := ?_) rfl (by kernel_rfl) (by kernel_rfl) (by kernel_rfl) (fun _ _ _ h => h) (Or.inl ⟨by rfl, ?_⟩) (by assumption) ?_
      rotate_left
      · intro w hSw; (try dsimp only at hSw); go_simp; try with_reducible rfl
      try simp only [Act.put, List.setIfInBounds_toArray, List.set_cons_zero, List.set_cons_succ]
      refine wpAnyH_take (i := 4) (oi := ⟨_, _, _, _, _, _⟩) (v := ?_) rfl (by kernel_rfl) (by kernel_rfl) (by kernel_rfl) (fun _ _ _ h => h) (Or.inl ⟨by rfl, ?_⟩) (by assumption) ?_
      rotate_left
      · intro w hSw; (try dsimp only at hSw); go_simp; try with_reducible rfl
      try simp only [Act.put, List.setIfInBounds_toArray, List.set_cons_zero, List.set_cons_succ]
      refine wpAnyH_ready (rs := [5]) (by kernel_rfl) (by simp) ?_
      refine AllReadyH.cons (o := ⟨_, _, _, _, _, _⟩) rfl (fun K hK => ?_) AllReadyH.nil
      go_simp
      go_at_call 39
      (with_reducible refine (hCo8).out.mono ?_)
      rintro e w9 ⟨A6, c6, Al9, cl9, rfl, hr6, hrm6, hb9'⟩
      have hcc9' := (hk9 (W := X8.drew) hb9' (Nat.le_refl _) hcc).out
      have hs9' : X8.heap.size ≤ w9.heap.size := hb9'.size
      have hb89' : Below X8.heap.size X8 w9 := (Below.refl _ X8).drew.trans hb9'
      have hSa9 := hSa A6 Al9 c6 cl9 w9 ((hr88.below hb89').more hb89'.size) hr6 ((hrm88.below hb89').more hb89'.size) hrm6
      go_wp2_with (fail)
      refine hK.out _ _ (by (try dsimp only); exact hcc9'.out) (fun hHeld => ?_)
      clear hK K
      try simp only [Act.put, List.setIfInBounds_toArray, List.set_cons_zero, List.set_cons_succ]
      refine wpAnyH_ready (rs := [6]) (by kernel_rfl) (by simp) ?_
      refine AllReadyH.cons (o := ⟨_, _, _, _, _, _⟩) rfl (fun K hK => ?_) AllReadyH.nil
      go_simp
      go_at_call 38
      (with_reducible refine (hSa9).out.mono ?_)
      rintro e w10 ⟨rfl, hb10⟩
      have hcc9 := (hk9 hb10 hs9' hcc9').out
      have hs9 : X8.heap.size ≤ w10.heap.size := Nat.le_trans hs9' hb10.size
      have hb89 := hb89'.trans (hb10.mono hs9')
      have hB9 := hB8.trans (hb89.mono hB8.size)
      have hrm9 := (hrm88.below hb89).more hb89.size
      have hra9 := (hra.below hB9).more hB9.size
      go_wp2_with (fail)
      refine hK.out _ _ (by (try dsimp only); exact hcc9.out) (fun hHeld => ?_)
      clear hK K
      try simp only [Act.put, List.setIfInBounds_toArray, List.set_cons_zero, List.set_cons_succ]
      refine wpAnyH_take (i := 7) (oi := ⟨_, _, _, _, _, _⟩) (v := ?_) rfl (by kernel_rfl) (by kernel_rfl) (by kernel_rfl) (fun _ _ _ h => h) (Or.inl ⟨by rfl, ?_⟩) (by assumption) ?_
      rotate_left
      · intro w hSw; (try dsimp only at hSw); go_simp; try with_reducible rfl
      try simp only [Act.put, List.setIfInBounds_toArray, List.set_cons_zero, List.set_cons_succ]
      refine wpAnyH_take (i := 8) (oi := ⟨_, _, _, _, _, _⟩) (v := ?_) rfl (by kernel_rfl) (by kernel_rfl) (by kernel_rfl) (fun _ _ _ h => h) (Or.inl ⟨by rfl, ?_⟩) (by assumption) ?_
      rotate_left
      · intro w hSw; (try dsimp only at hSw); go_simp; try with_reducible rfl
      try simp only [Act.put, List.setIfInBounds_toArray, List.set_cons_zero, List.set_cons_succ]
      refine wpAnyH_done (by kernel_rfl) ?_ _
      clear hSa hSa9 hCo8 hcc hcc9' hr6 hrm6 hr88 hrm88
      obtain ⟨-, u0, u1, u2, u3, u4⟩ := hcc9.out
      go_wp2_with (fail)
      clear u0 u1 u2 u3 u4
      go_loopw [86, 12] (fun i v wr => ∃ k : Nat, k ≤ kn ∧ i = .int .i64 k ∧ OwnM wr w10.heap.size v k (rowsL F.toDesc kn (colM (elS kn (gM F.toDesc pts mul) pts.length).1 l1)) ∧ Below w10.heap.size w10 wr) (fun i _ _ => kn - (intOf i).toNat)
      case atStart => exact ⟨0, by omega, rfl, OwnM.nil _ _ _, Below.refl _ _⟩
      case round =>
        obtain ⟨k, hk, rfl, hown, hbw9⟩ := hrel
        obtain ⟨wo, rfl⟩ : ∃ wo : World, wo = wr := ⟨_, rfl⟩
        have hso : w10.heap.size ≤ wo.heap.size := hbw9.size
        by_cases hkn : k < kn
        · have hk0 : (0 : Int) ≤ (k : Int) := by omega
          have hk1 : (k : Int) < (kn : Int) := by omega
          obtain ⟨b9, o9, B9, d9, rfl, hb9', hc9', hr9', -, -⟩ := hrm9.at_ hkn
          have hd9 := (hbw9.cell (p := ⟨b9, o9 + k, none⟩) hb9').trans hc9'
          obtain ⟨row, hrow⟩ : ∃ row, row = rowsL F.toDesc pts.length (elS kn (gM F.toDesc pts mul) pts.length).1 k := ⟨_, rfl⟩
          rw [← hrow] at hd9 hr9'
          have hrl : row.length = pts.length := by rw [hrow, rowsL, rowL_length]
          rw [hrl] at hd9
          replace hrow := Lib.hid hrow
          replace hrl := Lib.hid hrl
          have hr9o := (hr9'.below hbw9).more hbw9.size
          have hrao := (hra9.below hbw9).more hbw9.size
          obtain ⟨Aw, cw, rfl⟩ := hown.size
          clear hc9' hr9'
          go_wp2_with (fail)
          clear hd9
          go_loopw [92, 15] (fun j v wr => ∃ j' : Nat, j' ≤ l1.length ∧ j = .int .i64 j' ∧ Own wr wo.heap.size v (lst j' fun t => row[(l1[t]?.getD 0).toNat]?.getD 0) ∧ Below wo.heap.size wo wr) (fun j _ _ => l1.length - (intOf j).toNat)
          case atStart => exact ⟨0, by omega, rfl, Own.nil _ _, Below.refl _ _⟩
          case round =>
            obtain ⟨j, hj, rfl, ho, hbi⟩ := hrel
            obtain ⟨wi, rfl⟩ : ∃ wi : World, wi = wr := ⟨_, rfl⟩
            have hszi := hbi.size
            by_cases hjn : j < l1.length
            · obtain ⟨ba, oa, rfl, hba, hca⟩ := hrao.at_ hjn
              have hcb := (hbi.cell (p := ⟨ba, oa + j, none⟩) hba).trans hca
              obtain ⟨xn, hxn⟩ : ∃ xn : Nat, l1[j]?.getD 0 = (xn : Int) := ⟨(l1[j]?.getD 0).toNat, by have := hrg.out _ (mem_get hjn); omega⟩
              have hxl : xn < pts.length := by have := hrg.out _ (mem_get hjn); omega
              rw [hxn] at hcb
              obtain ⟨br, orr, rfl, hbr, hcr⟩ := hr9o.at_ (by rw [hrl.out]; exact hxl : xn < row.length)
              have hcr2 := (hbi.cell (p := ⟨br, orr + xn, none⟩) hbr).trans hcr
              obtain ⟨y, hy⟩ : ∃ y, y = row[xn]?.getD 0 := ⟨_, rfl⟩
              rw [← hy] at hcr2
              have hst : Hid ((fun t => row[(l1[t]?.getD 0).toNat]?.getD 0) j = y) := by unfold Hid; dsimp only; rw [hxn, hy, Int.toNat_natCast]
              have hj0 : (0 : Int) ≤ (j : Int) := by omega
              have hj1 : (j : Int) < (l1.length : Int) := by omega
              have hx0 : (0 : Int) ≤ (xn : Int) := by omega
              have hx1 : (xn : Int) < (pts.length : Int) := by omega
              have hle : (lst j fun t => row[(l1[t]?.getD 0).toNat]?.getD 0).length ≤ 1000000 := by rw [lst_length]; have := hlk.out; omega
              obtain ⟨Au, cu, rfl, -, -, -⟩ := ho.form
              replace hxn := Lib.hid hxn
              replace hy := Lib.hid hy
              clear hca hcr
              go_wp2_with (at_builtin; refine wpList_app1 rfl (.tmp 96) (.tmp 101) rfl wo.heap.size _ _ _ ho rfl rfl rfl hle hszi ?_; intro v' w' ho' hb' hg' hv')
              rw [← hst.out, ← lst_succ] at ho'
              go_roundw
              case rel => exact ⟨j + 1, by omega, by go_num, ho', hbi.trans hb'⟩
              case measure => simp [intOf]; omega
            · obtain rfl : j = l1.length := by omega
              have hrw : Hid ((lst l1.length fun t => row[(l1[t]?.getD 0).toNat]?.getD 0) = rowsL F.toDesc kn (colM (elS kn (gM F.toDesc pts mul) pts.length).1 l1) k) := by
                unfold Hid
                rw [hlk.out, hrow.out]
                unfold rowsL rowL
                exact lst_congr fun t ht => by
                  have := hrg.out _ (mem_get (l := l1) (by have := hlk.out; omega : t < l1.length))
                  exact rowL_get F.toDesc _ (m := pts.length) (by omega)
              rw [hrw.out] at ho
              obtain ⟨Au, cu, rfl, hcu, hru, hAu⟩ := ho.form
              have hcm := Own.capM ho
              obtain ⟨hs, e1, e2, e3⟩ := hown.below (W := wo.heap.size) hbi (Nat.le_refl _)
              go_wp2_with (at_builtin; refine wpList_app1V rfl (.tmp 104) (.tmp 106) rfl w10.heap.size _ hs _ rfl e2 rfl rfl rfl (by rw [e1]; omega) (Nat.le_trans hso hszi) ?_; intro v3 W3 ho3 hb3 hg3 hv3)
              have hsn := OwnM.snoc e1 e3 hru hcu hcm (fun hne a e => ⟨fun e2' => by have h1 := (hAu a e).1; have h2 := (World.ownsRow.lt (hown.choose_spec.2.1) _ e2').2; omega, by have h1 := (hAu a e).1; omega⟩) ho3 hg3 hv3
              go_roundw
              case rel => exact ⟨k + 1, by omega, by go_num, hsn, (hbw9.trans (hbi.mono hso)).trans hb3⟩
              case measure => simp [intOf]; omega
        · obtain rfl : kn = k := by omega
          obtain ⟨A12, c12, rfl, hrm12⟩ := hown.rd
          have hBo := hB9.trans (hbw9.mono hB9.size)
          have hcco := (hk9 hbw9 hs9 hcc9).out
          have hro := (hr.below hBo).more hBo.size
          have hrvo := (hrv.below hBo).more hBo.size
          obtain ⟨⟨s0, s1, s2, s3, s4, s5⟩, -⟩ := hcco.out
          rcases Nat.eq_zero_or_pos kn with h0 | hpos
          · subst h0
            have hMk := fun W a => Make12_any F 0 1 (colM (elS 0 (gM F.toDesc pts mul) pts.length).1 l1) A A12 c c12 W a RdM.zero (by omega) (by omega)
            have hrk0 : rkS F 0 1 (colM (elS 0 (gM F.toDesc pts mul) pts.length).1 l1) = 0 := Nat.le_zero.1 (elS_le 0 (colM (elS 0 (gM F.toDesc pts mul) pts.length).1 l1) 1).1
            unfold MakePost at hMk
            rw [hrk0, show ((1 : Nat) : Int) = 1 from rfl] at hMk
            replace hMk := fun W a => Lib.hid (hMk W a)
            have hH := fun A6 c6 Al6 cl6 W a d => Has12_no F hbH.out 0 1 (colM (elS 0 (gM F.toDesc pts mul) pts.length).1 l1) ⟨hrk0, fun i hi => absurd hi (Nat.not_lt_zero _)⟩ A6 Al6 c6 cl6 l2 Av cv W a RdM.zero (by omega) (by omega) (by omega) d (by rw [hl2.out.1]; omega) (by rw [show elErr F.toDesc l2 ((1 : Nat) : Int) 4 = 4 from if_pos (by rw [hl2.out.1]; decide)]; decide)
            rw [show elErr F.toDesc l2 ((1 : Nat) : Int) 4 = 4 from if_pos (by rw [hl2.out.1]; decide), show ((1 : Nat) : Int) = 1 from rfl] at hH
            replace hH := fun A6 c6 Al6 cl6 W a d => Lib.hid (hH A6 c6 Al6 cl6 W a d)
            have hMo := hMk wo hro
            clear hMk hrk0
            go_wp2_with (fail)
            (with_reducible refine hMo.out.mono ?_)
            rintro e w13 ⟨A14, c14, Al14, cl14, rfl, hr14, -, hrm14, hb13⟩
            have hB13 := hBo.trans (hb13.mono hBo.size)
            have hrv13 := (hrvo.below hb13).more hb13.size
            have k13 := (hk9 hb13 (Nat.le_trans hs9 hso) hcco).out
            obtain ⟨⟨t0, t1, t2, t3, t4, t5⟩, -⟩ := k13.out
            clear s0 s1 s2 s3 s4 s5
            have kk13 := Lib.hid (show _ ∧ _ ∧ _ ∧ _ ∧ _ ∧ _ from ⟨t0, t1, t2, t3, t4, t5⟩)
            have hl13 : w.heap.size < w13.heap.size := Nat.lt_of_lt_of_le (Nat.lt_of_lt_of_le (Nat.lt_trans hlt7 hlt8) (Nat.le_trans hs9 hso)) hb13.size
            go_wp2_with (fail)
            (with_reducible refine (hH A14 c14 Al14 cl14 w13 hr14 hrv13).out.mono ?_)
            rintro e w14 ⟨rfl, hb14⟩
            clear t0 t1 t2 t3 t4 t5
            obtain ⟨t0, t1, t2, t3, t4, t5⟩ := keep6 hb14 hl13 kk13.out
            go_wp2_with (fail)
            go_ret
            exact ⟨by simp, hB13.trans (hb14.mono hB13.size)⟩
          · have hind := colM_indep (a := l1) hz.out hrg.out hnd.out hlk.out
            have hu := (elS_unit hind).1
            have hcan := canl_elS F kn kn (colM (elS kn (gM F.toDesc pts mul) pts.length).1 l1)
            rw [hu] at hcan
            have hMk := fun W a b => Make12_any F kn kn (colM (elS kn (gM F.toDesc pts mul) pts.length).1 l1) A A12 c c12 W a b (by omega) (by omega)
            unfold MakePost at hMk
            rw [hu] at hMk
            replace hMk := fun W a b => Lib.hid (hMk W a b)
            have hl2e := list_rowL hl2.out.2
            rw [hl2.out.1] at hl2e
            rw [hl2e] at hrvo
            have hH := fun A6 c6 Al6 cl6 W a b d => Has12_yes F hbH.out kn kn (elS kn (colM (elS kn (gM F.toDesc pts mul) pts.length).1 l1) kn).1 hcan A6 Al6 c6 cl6 (fun j => eli F.toDesc (l2[j]?.getD 0)) Av cv W a b (by omega) hpos (by omega) d (fun i hi => by rw [fnz_unit hind hi]; exact hi)
            have hru : all0 (rowL F.toDesc kn (restF kn (fun i => fnz (rowsL F.toDesc kn (elS kn (colM (elS kn (gM F.toDesc pts mul) pts.length).1 l1) kn).1 i)) (elS kn (colM (elS kn (gM F.toDesc pts mul) pts.length).1 l1) kn).1 (fun j => eli F.toDesc (l2[j]?.getD 0)))) = true := rest_unit hind _
            rw [hru] at hH
            clear hru
            replace hH := fun A6 c6 Al6 cl6 W a b d => Lib.hid (hH A6 c6 Al6 cl6 W a b d)
            have hMo := hMk wo hro hrm12
            have h1k : (1 : Int) ≤ (kn : Int) := by omega
            have hk0b : ((kn : Int) == 0) = false := by rw [beq_eq_false_iff_ne]; omega
            clear hMk hind hu hcan hl2e
            rw [hl2.out.1]
            go_wp2_with (fail)
            (with_reducible refine hMo.out.mono ?_)
            rintro e w13 ⟨A14, c14, Al14, cl14, rfl, hr14, -, hrm14, hb13⟩
            have hB13 := hBo.trans (hb13.mono hBo.size)
            have hrv13 := (hrvo.below hb13).more hb13.size
            have k13 := (hk9 hb13 (Nat.le_trans hs9 hso) hcco).out
            obtain ⟨⟨t0, t1, t2, t3, t4, t5⟩, -⟩ := k13.out
            clear s0 s1 s2 s3 s4 s5
            have kk13 := Lib.hid (show _ ∧ _ ∧ _ ∧ _ ∧ _ ∧ _ from ⟨t0, t1, t2, t3, t4, t5⟩)
            have hl13 : w.heap.size < w13.heap.size := Nat.lt_of_lt_of_le (Nat.lt_of_lt_of_le (Nat.lt_trans hlt7 hlt8) (Nat.le_trans hs9 hso)) hb13.size
            go_wp2_with (fail)
            (with_reducible refine (hH A14 c14 Al14 cl14 w13 hr14 hrm14.rdm hrv13).out.mono ?_)
            rintro e w14 ⟨rfl, hb14⟩
            clear t0 t1 t2 t3 t4 t5
            obtain ⟨t0, t1, t2, t3, t4, t5⟩ := keep6 hb14 hl13 kk13.out
            go_wp2_with (fail)
            go_ret
            exact ⟨by simp, hB13.trans (hb14.mono hB13.size)⟩
end Go.Proofs.Ytnbkmkeiophjoaa
