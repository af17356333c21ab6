/- GrsMessages: the walk. -/
import Derived.Test.YtnbkmkeiophjoaaK03
import Derived.Test.YtnbkmkeiophjoaaMatZ
import Derived.Test.YtnbkmkeiophjoaaMI
import Derived.Test.YtnbkmkeiophjoaaMsgL
namespace Go.Proofs.Ytnbkmkeiophjoaa
open Go.RowKit Cw
attribute [local go_sem] Oper.semAt_some

set_option maxHeartbeats 2000000 in
theorem Has18_any (F : FD) (hgood : Good F.p F.m (modL F.toDesc)) (kn : Nat) (pts mul word : List Int) (A A1 A2 Aw : Option Addr) (c c1 c2 cw : Nat) (w : World) (hz : gchkD F.toDesc kn pts mul = 0) (hr : Rd w w.heap.size A (modL F.toDesc)) (hr1 : Rd w w.heap.size A1 pts) (hr2 : Rd w w.heap.size A2 mul) (hrw : Rd w w.heap.size Aw word)
    (hw : word.length = pts.length) (hel : elB F.toDesc word = true) :
    Calls Try.prog 36 #[.agg #[.int .i64 F.p, .int .i64 F.m, .slice A F.mod.length c, .int .i64 (kn : Int), .slice A1 pts.length c1, .slice A2 mul.length c2], .slice Aw word.length cw] w fun e w' => e = .returned (.bool (inB F kn pts mul word)) ∧ Below w.heap.size w w' := by
  obtain ⟨hp1, hp64, hlen, -, -, -, -, -, hkn⟩ := gchkD_zero hz
  have hrk := gM_rank hz
  rw [Int.toNat_natCast] at hrk
  have hcan := canl_elS F kn pts.length (gM F.toDesc pts mul)
  rw [hrk] at hcan
  have hCo := fun W a b d => Code18_any F kn pts mul A A1 A2 c c1 c2 W a b d hlen hp64 (by omega)
  rw [hrk] at hCo
  replace hCo := fun W a b d => Lib.hid (hCo W a b d)
  have hwe := list_rowL hel
  rw [hw] at hwe
  have hrw2 : Rd w w.heap.size Aw (rowL F.toDesc pts.length fun j => eli F.toDesc (word[j]?.getD 0)) := hwe ▸ hrw
  have hH := fun A6 c6 Al6 cl6 W a b d => Lib.hid (Has12_yes F hgood kn pts.length (elS kn (gM F.toDesc pts mul) pts.length).1 hcan A6 Al6 c6 cl6 (fun j => eli F.toDesc (word[j]?.getD 0)) Aw cw W a b (by omega) hp1 hp64 d (fun i hi => by rw [(fnz_piv hz hi).1]; exact (fnz_piv hz hi).2))
  have hB : Below w.heap.size w (w.alloc (.cells #[.int .i64 F.p, .int .i64 F.m, .slice A F.mod.length c, .int .i64 (kn : Int), .slice A1 pts.length c1, .slice A2 mul.length c2] 27)) := (Below.refl _ _).alloc (Nat.le_refl _) _
  have k0 := alloc6 w (.int .i64 F.p) (.int .i64 F.m) (.slice A F.mod.length c) (.int .i64 (kn : Int)) (.slice A1 pts.length c1) (.slice A2 mul.length c2) 27
  obtain ⟨Z, hZ⟩ : ∃ Z, Z = w.alloc (.cells #[.int .i64 F.p, .int .i64 F.m, .slice A F.mod.length c, .int .i64 (kn : Int), .slice A1 pts.length c1, .slice A2 mul.length c2] 27) := ⟨_, rfl⟩
  have hBZ : Below w.heap.size w Z := by rw [hZ]; exact hB
  have hCZ := hCo Z ((hr.below hBZ).more hBZ.size) ((hr1.below hBZ).more hBZ.size) ((hr2.below hBZ).more hBZ.size)
  replace hZ := Lib.hid hZ
  have hin : Hid (inB F kn pts mul word = all0 (rowL F.toDesc pts.length (restF kn (fun i => fnz (rowsL F.toDesc pts.length (elS kn (gM F.toDesc pts mul) pts.length).1 i)) (elS kn (gM F.toDesc pts mul) pts.length).1 (fun j => eli F.toDesc (word[j]?.getD 0))))) := rfl
  have hww := Lib.hid hw
  clear hwe hcan hrk hz hgood hCo hlen hw
  rw [hww.out]
  go_enter Try.func36, Try.ntmps36
  obtain ⟨q0, q1, q2, q3, q4, q5⟩ := k0
  go_wp2_with (fail)
  rw [← hZ.out]
  (with_reducible refine hCZ.out.mono ?_)
  rintro e w1 ⟨A6, c6, Al6, cl6, rfl, hr6, hrm6, hb1⟩
  have hB1 := hBZ.trans (hb1.mono hBZ.size)
  have hH1 := hH A6 c6 Al6 cl6 w1 hr6 hrm6 ((hrw2.below hB1).more hB1.size)
  go_wp2_with (fail)
  (with_reducible refine hH1.out.mono ?_)
  rintro e w2 ⟨rfl, hb2⟩
  go_wp2_with (fail)
  go_ret
  exact ⟨by rw [hin.out]; rfl, hB1.trans (hb2.mono hB1.size)⟩

set_option maxHeartbeats 2000000 in
theorem messagesL_bad (P M K : Int) (ml pts mul : List Int) (A A1 A2 : Option Addr) (c c1 c2 : Nat) (l1 : List Int) (Aw : Option Addr) (cw : Nat) (w : World) (hP : I64 P) (hM : I64 M) (hl : ml.length ≤ maxLen) (hr : Rd w w.heap.size A ml) (hb : ¬ Good P M ml) (_hK : I64 K) (h1 : pts.length ≤ c1 ∧ c1 ≤ maxLen) (_h2 : mul.length ≤ c2 ∧ c2 ≤ maxLen) (_hi : ∀ x ∈ pts, I64 x) (_hj : ∀ x ∈ mul, I64 x) (_hr1 : Rd w w.heap.size A1 pts) (_hr2 : Rd w w.heap.size A2 mul)
    (_h3 : l1.length ≤ cw) (h3' : cw ≤ maxLen) (_hrw : Rd w w.heap.size Aw l1) :
    Calls Try.prog 10 #[.agg #[.int .i64 P, .int .i64 M, .slice A ml.length c, .int .i64 K, .slice A1 pts.length c1, .slice A2 mul.length c2], .slice Aw l1.length cw] w (LawEnd w) := by
  have hA := fun W => Lib.hid (alive_any W)
  have hD := fun W h => Lib.hid (gMsg_bad P M K ml pts mul A A1 A2 c c1 c2 l1 Aw cw W hP hM hl h hb)
  have hC := fun W h => Lib.hid (Chk18_bad P M K ml pts mul A A1 A2 c c1 c2 W hP hM hl h hb)
  have hm1 := h1.1; have hm2 := h1.2; have hm3 := h3'
  unfold maxLen at hm2 hm3
  have k0 := Lib.hid (alloc6 w (.int .i64 P) (.int .i64 M) (.slice A ml.length c) (.int .i64 K) (.slice A1 pts.length c1) (.slice A2 mul.length c2) 27)
  have hB : Below w.heap.size w (w.alloc (.cells #[.int .i64 P, .int .i64 M, .slice A ml.length c, .int .i64 K, .slice A1 pts.length c1, .slice A2 mul.length c2] 27)) := (Below.refl _ _).alloc (Nat.le_refl _) _
  clear hP hM hl hb
  go_enter Try.func10, Try.ntmps10
  go_wp2_with (fail)
  refine (hA _).out.mono ?_
  rintro e w1 ⟨rfl, hb1⟩
  have kk1 := Lib.hid (keep6 hb1 (by simp) k0.out)
  have hB1 := hB.trans (hb1.mono hB.size)
  have hlt1 : w.heap.size < w1.heap.size := by have := hb1.size; simp only [World.size_alloc] at this; omega
  obtain ⟨q0, q1, q2, q3, q4, q5⟩ := kk1.out
  by_cases h24 : 24 < pts.length
  · go_wp2_with (fail)
    go_ret
    exact ⟨rfl, hB1⟩
  by_cases h300 : 300 < l1.length
  · go_wp2_with (fail)
    go_ret
    exact ⟨rfl, hB1⟩
  go_wp2_with (fail)
  (with_reducible refine (hD w1 ((hr.below hB1).more hB1.size)).out.mono ?_)
  rintro e w2 ⟨rfl, hb2⟩
  have hB2 := hB1.trans (hb2.mono hB1.size)
  have kk2 := Lib.hid (keep6 hb2 hlt1 kk1.out)
  have hlt2 : w.heap.size < w2.heap.size := Nat.lt_of_lt_of_le hlt1 hb2.size
  clear q0 q1 q2 q3 q4 q5
  obtain ⟨q0, q1, q2, q3, q4, q5⟩ := kk2.out
  go_wp2_with (fail)
  (with_reducible refine (hC w2 ((hr.below hB2).more hB2.size)).out.mono ?_)
  rintro e w3 ⟨rfl, hb3⟩
  have hB3 := hB2.trans (hb3.mono hB2.size)
  have kk3 := Lib.hid (keep6 hb3 hlt2 kk2.out)
  have hlt3 : w.heap.size < w3.heap.size := Nat.lt_of_lt_of_le hlt2 hb3.size
  clear q0 q1 q2 q3 q4 q5
  obtain ⟨q0, q1, q2, q3, q4, q5⟩ := kk3.out
  go_wp2_with (fail)
  go_ret
  exact ⟨rfl, hB3⟩

set_option maxRecDepth 100000 in
set_option maxHeartbeats 4000000 in
theorem messagesL_good (D : Desc) (K : Int) (pts mul : List Int) (A A1 A2 : Option Addr) (c c1 c2 : Nat) (l1 : List Int) (Aw : Option Addr) (cw : Nat) (w : World) (hr : Rd w w.heap.size A (modL D)) (hb : Good D.p D.m (modL D)) (_hK : I64 K) (h1 : pts.length ≤ c1 ∧ c1 ≤ maxLen) (h2 : mul.length ≤ c2 ∧ c2 ≤ maxLen) (_hi : ∀ x ∈ pts, I64 x) (_hj : ∀ x ∈ mul, I64 x) (hr1 : Rd w w.heap.size A1 pts) (hr2 : Rd w w.heap.size A2 mul)
    (h3 : l1.length ≤ cw) (h3' : cw ≤ maxLen) (hrw : Rd w w.heap.size Aw l1) :
    Calls Try.prog 10 #[.agg #[.int .i64 D.p, .int .i64 D.m, .slice A D.mod.length c, .int .i64 K, .slice A1 pts.length c1, .slice A2 mul.length c2], .slice Aw l1.length cw] w (LawEnd w) := by
  have hA := fun W => Lib.hid (alive_any W)
  have hD := fun W h a b d g => Lib.hid (gMsg_D D K pts mul A A1 A2 c c1 c2 l1 Aw cw W h hb a b h1.1 h1.2 (Nat.le_trans h2.1 h2.2) d g)
  have hC := fun W h a b => Lib.hid (Chk18_D D K pts mul A A1 A2 c c1 c2 W h hb a b (Nat.le_trans h2.1 h2.2))
  have hE := fun W d => Lib.hid (Elems18_any D l1 pts.length 4 A Aw c cw W d (Nat.le_trans h3 h3'))
  have hm1 := h1.1; have hm2 := h1.2; have hm3 := h3'
  unfold maxLen at hm2 hm3
  have k0 := Lib.hid (alloc6 w (.int .i64 D.p) (.int .i64 D.m) (.slice A D.mod.length c) (.int .i64 K) (.slice A1 pts.length c1) (.slice A2 mul.length c2) 27)
  have hB : Below w.heap.size w (w.alloc (.cells #[.int .i64 D.p, .int .i64 D.m, .slice A D.mod.length c, .int .i64 K, .slice A1 pts.length c1, .slice A2 mul.length c2] 27)) := (Below.refl _ _).alloc (Nat.le_refl _) _
  have hbH := Lib.hid hb
  clear hb
  go_enter Try.func10, Try.ntmps10
  go_wp2_with (fail)
  refine (hA _).out.mono ?_
  rintro e w1 ⟨rfl, hb1⟩
  have kk1 := Lib.hid (keep6 hb1 (by simp) k0.out)
  have hB1 := hB.trans (hb1.mono hB.size)
  have hlt1 : w.heap.size < w1.heap.size := by have := hb1.size; simp only [World.size_alloc] at this; omega
  obtain ⟨q0, q1, q2, q3, q4, q5⟩ := kk1.out
  by_cases h24 : 24 < pts.length
  · go_wp2_with (fail)
    go_ret
    exact ⟨rfl, hB1⟩
  by_cases h300 : 300 < l1.length
  · go_wp2_with (fail)
    go_ret
    exact ⟨rfl, hB1⟩
  go_wp2_with (fail)
  (with_reducible refine (hD w1 ((hr.below hB1).more hB1.size) ((hr1.below hB1).more hB1.size) ((hr2.below hB1).more hB1.size) ((hrw.below hB1).more hB1.size) (by omega)).out.mono ?_)
  rintro e w2 ⟨hb2, ⟨hne, rfl⟩ | ⟨h0, msg, hmsg, hcase⟩⟩
  · by_cases hg0 : gchkD D K pts mul = 0
    rotate_left
    · have hv : mErr0 D K pts mul l1 = gchkD D K pts mul := if_pos hg0
      rw [hv]
      have hgb : (gchkD D K pts mul == 0) = false := by rw [beq_eq_false_iff_ne]; exact hg0
      have hgb2 : (gchkD D K pts mul != 0) = true := by rw [bne_iff_ne]; exact hg0
      clear hv hg0 hne
      have hB2 := hB1.trans (hb2.mono hB1.size)
      have kk2 := Lib.hid (keep6 hb2 hlt1 kk1.out)
      have hlt2 : w.heap.size < w2.heap.size := Nat.lt_of_lt_of_le hlt1 hb2.size
      clear q0 q1 q2 q3 q4 q5
      obtain ⟨q0, q1, q2, q3, q4, q5⟩ := kk2.out
      go_wp2_with (fail)
      (with_reducible refine (hC w2 ((hr.below hB2).more hB2.size) ((hr1.below hB2).more hB2.size) ((hr2.below hB2).more hB2.size)).out.mono ?_)
      rintro e w3 ⟨rfl, hb3⟩
      have hB3 := hB2.trans (hb3.mono hB2.size)
      have kk3 := Lib.hid (keep6 hb3 hlt2 kk2.out)
      have hlt3 : w.heap.size < w3.heap.size := Nat.lt_of_lt_of_le hlt2 hb3.size
      clear q0 q1 q2 q3 q4 q5
      obtain ⟨q0, q1, q2, q3, q4, q5⟩ := kk3.out
      go_wp2_with (fail)
      go_ret
      exact ⟨by simp, hB3⟩
    · have hv : mErr0 D K pts mul l1 = elErr D l1 pts.length 4 := if_neg (fun h => h hg0)
      rw [hv] at hne ⊢
      rw [hg0] at hC
      have hgb : (elErr D l1 pts.length 4 == 0) = false := by rw [beq_eq_false_iff_ne]; exact hne
      have hgb2 : (elErr D l1 pts.length 4 != 0) = true := by rw [bne_iff_ne]; exact hne
      clear hv hg0 hne
      have hB2 := hB1.trans (hb2.mono hB1.size)
      have kk2 := Lib.hid (keep6 hb2 hlt1 kk1.out)
      have hlt2 : w.heap.size < w2.heap.size := Nat.lt_of_lt_of_le hlt1 hb2.size
      clear q0 q1 q2 q3 q4 q5
      obtain ⟨q0, q1, q2, q3, q4, q5⟩ := kk2.out
      go_wp2_with (fail)
      (with_reducible refine (hC w2 ((hr.below hB2).more hB2.size) ((hr1.below hB2).more hB2.size) ((hr2.below hB2).more hB2.size)).out.mono ?_)
      rintro e w3 ⟨rfl, hb3⟩
      have hB3 := hB2.trans (hb3.mono hB2.size)
      have kk3 := Lib.hid (keep6 hb3 hlt2 kk2.out)
      have hlt3 : w.heap.size < w3.heap.size := Nat.lt_of_lt_of_le hlt2 hb3.size
      clear q0 q1 q2 q3 q4 q5
      obtain ⟨q0, q1, q2, q3, q4, q5⟩ := kk3.out
      go_wp2_with (fail)
      (with_reducible refine (hE w3 ((hrw.below hB3).more hB3.size)).out.mono ?_)
      rintro e w4 ⟨rfl, hb4⟩
      go_wp2_with (fail)
      go_ret
      exact ⟨by simp, hB3.trans (hb4.mono hB3.size)⟩
  have hg0 : gchkD D K pts mul = 0 := Classical.byContradiction fun h => h ((if_pos h : mErr0 D K pts mul l1 = gchkD D K pts mul).symm.trans h0)
  have hel0 : elErr D l1 pts.length 4 = 0 := (if_neg (fun h => h hg0) : mErr0 D K pts mul l1 = elErr D l1 pts.length 4).symm.trans h0
  obtain ⟨hp1, hp64, hlen, -, -, -, -, hK0, hKn⟩ := gchkD_zero hg0
  obtain ⟨kn, rfl⟩ : ∃ kn : Nat, K = kn := ⟨K.toNat, by omega⟩
  rw [Int.toNat_natCast] at hmsg
  have hwe : l1.length = pts.length ∧ elB D l1 = true := by
    unfold elErr at hel0
    by_cases g1 : (l1.length : Int) ≠ pts.length
    · rw [if_pos g1] at hel0; cases hel0
    rw [if_neg g1] at hel0
    cases h : elB D l1 with
    | true => exact ⟨by omega, rfl⟩
    | false => rw [if_pos h] at hel0; cases hel0
  obtain ⟨u, hu⟩ := gen_of_good hbH.out
  obtain ⟨F, rfl⟩ : ∃ F : FD, F.toDesc = D := ⟨mkFD D u hu, rfl⟩
  clear hu u
  have hin := word_span hg0 hwe.1 hwe.2 hmsg
  have hH := fun W a b d f => Has18_any F hbH.out kn pts mul l1 A A1 A2 Aw c c1 c2 cw W hg0 a b d f hwe.1 hwe.2
  rw [hg0] at hC
  rw [hel0] at hE
  replace hg0 := Lib.hid hg0
  replace hwe := Lib.hid hwe
  replace hmsg := Lib.hid hmsg
  replace hlen := Lib.hid hlen
  clear h0 hel0
  rcases hcase with ⟨hnw, rfl⟩ | ⟨heq, Am, cm, rfl, hrm⟩
  · have hinb : inB F kn pts mul l1 = false := by
      cases h : inB F kn pts mul l1 with
      | false => rfl
      | true => exact absurd (hin.1 h) hnw
    rw [hinb] at hH
    replace hH := fun W a b d f => Lib.hid (hH W a b d f)
    clear hin hnw hinb
    have hB2 := hB1.trans (hb2.mono hB1.size)
    have kk2 := Lib.hid (keep6 hb2 hlt1 kk1.out)
    have hlt2 : w.heap.size < w2.heap.size := Nat.lt_of_lt_of_le hlt1 hb2.size
    clear q0 q1 q2 q3 q4 q5
    obtain ⟨q0, q1, q2, q3, q4, q5⟩ := kk2.out
    go_wp2_with (fail)
    (with_reducible refine (hC w2 ((hr.below hB2).more hB2.size) ((hr1.below hB2).more hB2.size) ((hr2.below hB2).more hB2.size)).out.mono ?_)
    rintro e w3 ⟨rfl, hb3⟩
    have hB3 := hB2.trans (hb3.mono hB2.size)
    have kk3 := Lib.hid (keep6 hb3 hlt2 kk2.out)
    have hlt3 : w.heap.size < w3.heap.size := Nat.lt_of_lt_of_le hlt2 hb3.size
    clear q0 q1 q2 q3 q4 q5
    obtain ⟨q0, q1, q2, q3, q4, q5⟩ := kk3.out
    go_wp2_with (fail)
    (with_reducible refine (hE w3 ((hrw.below hB3).more hB3.size)).out.mono ?_)
    rintro e w4 ⟨rfl, hb4⟩
    have hB4 := hB3.trans (hb4.mono hB3.size)
    have kk4 := Lib.hid (keep6 hb4 hlt3 kk3.out)
    have hlt4 : w.heap.size < w4.heap.size := Nat.lt_of_lt_of_le hlt3 hb4.size
    clear q0 q1 q2 q3 q4 q5
    obtain ⟨q0, q1, q2, q3, q4, q5⟩ := kk4.out
    go_wp2_with (fail)
    (with_reducible refine (hH w4 ((hr.below hB4).more hB4.size) ((hr1.below hB4).more hB4.size) ((hr2.below hB4).more hB4.size) ((hrw.below hB4).more hB4.size)).out.mono ?_)
    rintro e w5 ⟨rfl, hb5⟩
    have hB5 := hB4.trans (hb5.mono hB4.size)
    have kk5 := Lib.hid (keep6 hb5 hlt4 kk4.out)
    clear q0 q1 q2 q3 q4 q5
    obtain ⟨q0, q1, q2, q3, q4, q5⟩ := kk5.out
    go_wp2_with (fail)
    go_ret
    exact ⟨by simp, hB5⟩
  · have hinb : inB F kn pts mul l1 = true := hin.2 heq
    rw [hinb] at hH
    replace hH := fun W a b d f => Lib.hid (hH W a b d f)
    have hml := hmsg.out.1
    have hmlb : ((msg.length : Int) == (kn : Int)) = true := by rw [beq_iff_eq]; omega
    have hW := fun W a b d e' => Word18_any F.toDesc kn pts mul msg A A1 A2 Am c c1 c2 cm W a b d e' hlen.out hp64 (by rw [hml]; unfold maxLen; omega)
    unfold Gives at hW
    rw [heq] at hW
    replace hW := fun W a b d e' => Lib.hid (hW W a b d e')
    have hSm := fun B1 d1 W a b => Lib.hid (same_refl l1 B1 Aw d1 cw W a b (by omega))
    replace hml := Lib.hid hml
    replace heq := Lib.hid heq
    clear hin hinb
    have hB2 := hB1.trans (hb2.mono hB1.size)
    have kk2 := Lib.hid (keep6 hb2 hlt1 kk1.out)
    have hlt2 : w.heap.size < w2.heap.size := Nat.lt_of_lt_of_le hlt1 hb2.size
    clear q0 q1 q2 q3 q4 q5
    obtain ⟨q0, q1, q2, q3, q4, q5⟩ := kk2.out
    go_wp2_with (fail)
    (with_reducible refine (hC w2 ((hr.below hB2).more hB2.size) ((hr1.below hB2).more hB2.size) ((hr2.below hB2).more hB2.size)).out.mono ?_)
    rintro e w3 ⟨rfl, hb3⟩
    have hB3 := hB2.trans (hb3.mono hB2.size)
    have kk3 := Lib.hid (keep6 hb3 hlt2 kk2.out)
    have hlt3 : w.heap.size < w3.heap.size := Nat.lt_of_lt_of_le hlt2 hb3.size
    clear q0 q1 q2 q3 q4 q5
    obtain ⟨q0, q1, q2, q3, q4, q5⟩ := kk3.out
    go_wp2_with (fail)
    (with_reducible refine (hE w3 ((hrw.below hB3).more hB3.size)).out.mono ?_)
    rintro e w4 ⟨rfl, hb4⟩
    have hB4 := hB3.trans (hb4.mono hB3.size)
    have kk4 := Lib.hid (keep6 hb4 hlt3 kk3.out)
    have hlt4 : w.heap.size < w4.heap.size := Nat.lt_of_lt_of_le hlt3 hb4.size
    clear q0 q1 q2 q3 q4 q5
    obtain ⟨q0, q1, q2, q3, q4, q5⟩ := kk4.out
    go_wp2_with (fail)
    (with_reducible refine (hH w4 ((hr.below hB4).more hB4.size) ((hr1.below hB4).more hB4.size) ((hr2.below hB4).more hB4.size) ((hrw.below hB4).more hB4.size)).out.mono ?_)
    rintro e w5 ⟨rfl, hb5⟩
    have hlt5 : w.heap.size < w5.heap.size := Nat.lt_of_lt_of_le hlt4 hb5.size
    have hB5 := hB4.trans (hb5.mono hB4.size)
    have kk5 := Lib.hid (keep6 hb5 hlt4 kk4.out)
    clear q0 q1 q2 q3 q4 q5
    obtain ⟨q0, q1, q2, q3, q4, q5⟩ := kk5.out
    go_wp2_with (fail)
    have hb25 := (hb3.trans (hb4.mono hb3.size)).trans (hb5.mono (Nat.le_trans hb3.size hb4.size))
    (with_reducible refine (hW w5 ((hr.below hB5).more hB5.size) ((hr1.below hB5).more hB5.size) ((hr2.below hB5).more hB5.size) ((hrm.below hb25).more hb25.size)).out.mono ?_)
    rintro e w6 ⟨g6, rfl, hg6, hib6, hb6⟩
    have hB6 := hB5.trans (hb6.mono hB5.size)
    have hS6 := hSm (some ⟨g6, 0, none⟩) l1.length w6 hib6.rd ((hrw.below hB6).more hB6.size)
    go_wp2_with (fail)
    (with_reducible refine hS6.out.mono ?_)
    rintro e w7 ⟨rfl, hb7⟩
    go_wp2_with (fail)
    go_ret
    exact ⟨by simp, hB6.trans (hb7.mono hB6.size)⟩
end Go.Proofs.Ytnbkmkeiophjoaa
