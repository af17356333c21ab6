/- Layer 7 of the program: IsBasis, Coordinates, Dual. -/
import Derived.Test.YteamndefbpdcjaaBasW
namespace Go.Proofs.Yteamndefbpdcjaa
open Go.RowKit Cw
attribute [local go_sem] Oper.semAt_some

set_option maxHeartbeats 1000000 in
theorem tIsBasis_any (F : FD) (l : List Int) (d : Int) (Al : Option Addr) (cl gf : Nat) (w : World) (hg : GF w w.heap.size gf F) (hrl : Rd w w.heap.size Al l) (hl : l.length ≤ maxLen) :
    Calls Try.prog 51 #[.pointer (some ⟨gf, 0, none⟩), .slice Al l.length cl, .int .i64 d] w fun e w' => e = .returned (.bool (basE F l d == 0)) ∧ Below w.heap.size w w' := by
  have hB := Lib.hid (tBasis_any F l d Al cl gf w hg hrl hl)
  go_enter Try.func51, Try.ntmps51
  go_wp2_with (fail)
  (with_reducible refine hB.out.mono ?_)
  rintro e w1 ⟨rfl, hb1⟩
  go_wp2_with (fail)
  go_ret
  exact ⟨rfl, hb1⟩

set_option maxHeartbeats 1000000 in
theorem tCoor_no (F : FD) (l : List Int) (d x E : Int) (Al : Option Addr) (cl gf : Nat) (w : World) (hg : GF w w.heap.size gf F) (hrl : Rd w w.heap.size Al l) (hl : l.length ≤ maxLen) (hE : basE F l d = E) (hE0 : E ≠ 0) :
    Calls Try.prog 53 #[.pointer (some ⟨gf, 0, none⟩), .slice Al l.length cl, .int .i64 d, .int .i64 x] w fun e w' => e = .returned (.tuple #[.slice none 0 0, .int .i64 E]) ∧ Below w.heap.size w w' := by
  have hB := tBasis_any F l d Al cl gf w hg hrl hl
  rw [hE] at hB
  replace hB := Lib.hid hB
  have hq : (E != 0) = true := by rw [bne_iff_ne]; exact hE0
  clear hE hE0
  go_enter Try.func53, Try.ntmps53
  go_wp2_with (fail)
  (with_reducible refine hB.out.mono ?_)
  rintro e w1 ⟨rfl, hb1⟩
  go_wp2_with (fail)
  go_ret2
  exact ⟨rfl, hb1⟩
set_option maxHeartbeats 1000000 in
theorem tDual_no (F : FD) (l : List Int) (d E : Int) (Al : Option Addr) (cl gf : Nat) (w : World) (hg : GF w w.heap.size gf F) (hrl : Rd w w.heap.size Al l) (hl : l.length ≤ maxLen) (hE : basE F l d = E) (hE0 : E ≠ 0) :
    Calls Try.prog 55 #[.pointer (some ⟨gf, 0, none⟩), .slice Al l.length cl, .int .i64 d] w fun e w' => e = .returned (.tuple #[.slice none 0 0, .int .i64 E]) ∧ Below w.heap.size w w' := by
  have hB := tBasis_any F l d Al cl gf w hg hrl hl
  rw [hE] at hB
  replace hB := Lib.hid hB
  have hq : (E != 0) = true := by rw [bne_iff_ne]; exact hE0
  clear hE hE0
  go_enter Try.func55, Try.ntmps55
  go_wp2_with (fail)
  (with_reducible refine hB.out.mono ?_)
  rintro e w1 ⟨rfl, hb1⟩
  go_wp2_with (fail)
  go_ret2
  exact ⟨rfl, hb1⟩

/-- What Coordinates hands back for a basis. -/
def CoorPost (F : FD) (l : List Int) (d n : Nat) (x : Int) (w : World) (e : Ending) (w' : World) : Prop :=
  Below w.heap.size w w' ∧ ∃ b, ∃ c : Nat → R F.toDesc, e = .returned (.tuple #[.slice (some ⟨b, 0, none⟩) n n, .int .i64 0]) ∧ IB w' b (rowL F.toDesc n c) ∧ (∀ j, j < n → InSub d (c j)) ∧ rsum n (fun j => c j * elL F l j) = eli F.toDesc x
set_option maxHeartbeats 2000000 in
theorem tCoor_yes (F : FD) (l : List Int) (d n : Nat) (x : Int) (Al : Option Addr) (cl gf : Nat) (w : World) (hg : GF w w.heap.size gf F) (hrl : Rd w w.heap.size Al l) (hd1 : 1 ≤ d) (hdm : d ≤ F.m) (hkd : d ∣ F.m) (hn : F.m / d = n) (hln : l.length = n) (hI : IndS d n (elL F l)) :
    Calls Try.prog 53 #[.pointer (some ⟨gf, 0, none⟩), .slice Al n cl, .int .i64 d, .int .i64 x] w (CoorPost F l d n x w) := by
  have hfm8 := F.m8
  have hd8 : d ≤ 8 := by omega
  have hn8 : n ≤ 8 := by rw [← hn]; exact Nat.le_trans (Nat.div_le_self _ _) F.m8
  have hn1 : 1 ≤ n := by rw [← hn]; exact Nat.div_pos hdm hd1
  have hnM : d * n = FF.M (R F.toDesc) := by rw [← hn, FD_M]; exact Nat.mul_div_cancel' hkd
  have hB := tBasis_any F l d Al cl gf w hg hrl (by unfold maxLen; omega)
  rw [basE_ok (divB_of hd1 hkd F.m1) (by unfold BasP; rw [hn]; exact ⟨hln, hI⟩), hln] at hB
  have hE := fun W h => teach_any F x d gf W h hd1 hd8
  rw [hn] at hE
  have hS := fun A c W a b e => tSystem_any F n (n + 1) d rfl hd1 hd8 hn l hln (fun i => frob (d * i) (eli F.toDesc x)) Al A cl c gf W a b e
  have hV := fun M g L W a b c d => tSolve_any F n (n + 1) rfl M g n gf L W a b c d (by omega)
  unfold CoorPost
  replace hB := Lib.hid hB
  replace hE := fun W h => Lib.hid (hE W h)
  replace hln := Lib.hid hln
  replace hnM := Lib.hid hnM
  clear hdm hkd hn hfm8
  go_enter Try.func53, Try.ntmps53
  go_wp2_with (fail)
  (with_reducible refine hB.out.mono ?_)
  rintro e w1 ⟨rfl, hb1⟩
  have hE1 := hE w1 ((hg.below hb1).more hb1.size)
  go_wp2_with (fail)
  (with_reducible refine hE1.out.mono ?_)
  rintro e w2 ⟨g2, rfl, hg2, hib2, hb2⟩
  have hB2 := hb1.trans (hb2.mono hb1.size)
  have hgf2 := (hg.below hB2).more hB2.size
  have hS2 := Lib.hid (hS (some ⟨g2, 0, none⟩) n w2 hgf2 ((hrl.below hB2).more hB2.size) hib2.rd)
  clear hS hE hE1 hb1 hb2
  go_wp2_with (fail)
  (with_reducible refine hS2.out.mono ?_)
  rintro e w3 ⟨g3, rfl, hg3, hmp3, hb3⟩
  have hV3 := Lib.hid (hV _ g3 w2.heap.size w3 (hgf2.below hb3) hmp3 hb3.size hg3)
  clear hV hS2
  go_wp2_with (fail)
  (with_reducible refine hV3.out.mono ?_)
  rintro e w4 ⟨hb4, ⟨rfl, y, ⟨j, hj, hyj⟩, hk⟩ | ⟨b5, c, rfl, hb, hib, hs, hk⟩⟩
  · exact absurd (ker_of_ind hnM.out hd1 hn1 hI hk j hj) hyj
  · obtain ⟨h1, h2⟩ := coor_sub hnM.out hs
    have hB4 := hB2.trans ((hb3.trans hb4).mono hB2.size)
    have hfin := Lib.hid (show _ ∧ _ ∧ _ from ⟨hib, h1, h2 hn1⟩)
    clear hk hs hib hV3 h1 h2
    go_wp2_with (fail)
    go_ret2
    exact ⟨hB4, b5, c, rfl, hfin.out⟩

/-- What Dual hands back for a basis. -/
def DualPost (F : FD) (l : List Int) (d n : Nat) (w : World) (e : Ending) (w' : World) : Prop :=
  Below w.heap.size w w' ∧ ∃ b, ∃ m : Nat → R F.toDesc, e = .returned (.tuple #[.slice (some ⟨b, 0, none⟩) n n, .int .i64 0]) ∧ IB w' b (rowL F.toDesc n m) ∧ SolA n (conA d n (elL F l) e0) m ∧ (∀ y, SolA n (conA d n (elL F l) e0) y → ∀ i, i < n → y i = m i) ∧ ∀ y, KerA n (conA d n (elL F l) e0) y → ∀ i, i < n → y i = 0
set_option maxHeartbeats 2000000 in
theorem tDual_yes (F : FD) (l : List Int) (d n : Nat) (Al : Option Addr) (cl gf : Nat) (w : World) (hg : GF w w.heap.size gf F) (hrl : Rd w w.heap.size Al l) (hd1 : 1 ≤ d) (hdm : d ≤ F.m) (hkd : d ∣ F.m) (hn : F.m / d = n) (hln : l.length = n) (hI : IndS d n (elL F l)) :
    Calls Try.prog 55 #[.pointer (some ⟨gf, 0, none⟩), .slice Al n cl, .int .i64 d] w (DualPost F l d n w) := by
  have hfm8 := F.m8
  have hd8 : d ≤ 8 := by omega
  have hn8 : n ≤ 8 := by rw [← hn]; exact Nat.le_trans (Nat.div_le_self _ _) F.m8
  have hn1 : 1 ≤ n := by rw [← hn]; exact Nat.div_pos hdm hd1
  have hnM : d * n = FF.M (R F.toDesc) := by rw [← hn, FD_M]; exact Nat.mul_div_cancel' hkd
  have hB := tBasis_any F l d Al cl gf w hg hrl (by unfold maxLen; omega)
  rw [basE_ok (divB_of hd1 hkd F.m1) (by unfold BasP; rw [hn]; exact ⟨hln, hI⟩), hln] at hB
  have hS := fun A c W a b e => tSystem_any F n (n + 1) d rfl hd1 hd8 hn l hln (e0 : Nat → R F.toDesc) Al A cl c gf W a b e
  have hV := fun M g L W a b c d => tSolve_any F n (n + 1) rfl M g n gf L W a b c d (by omega)
  have hmk := mk_ints n (by omega)
  have hn0 : (0 : Int) < (n : Int) := by omega
  have hn0' : 0 < n := by omega
  unfold DualPost
  replace hB := Lib.hid hB
  replace hln := Lib.hid hln
  replace hnM := Lib.hid hnM
  clear hdm hkd hn hfm8
  go_enter Try.func55, Try.ntmps55
  go_wp2_with (fail)
  (with_reducible refine hB.out.mono ?_)
  rintro e w1 ⟨rfl, hb1⟩
  have hib0 := IB.newz w1 n
  have hbA : Below w1.heap.size w1 (w1.alloc (.cells (Array.replicate n (Value.int .i64 0)) 3)) := (Below.refl _ _).alloc (Nat.le_refl _) _
  have hcA := hib0.cell (i := 0) (by simpa using hn0')
  have hfA := hib0.frozen 0
  go_wp2_with (fail)
  obtain ⟨w2, hw2⟩ : ∃ w2, w2 = (w1.alloc (.cells (Array.replicate n (Value.int .i64 0)) 3)).setCell ⟨w1.heap.size, 0, none⟩ (.int .i64 1) := ⟨_, rfl⟩
  have hib2 : IB w2 w1.heap.size (rowL F.toDesc n e0) := by
    rw [hw2]
    have h := hib0.set_ 0 1
    rw [show (List.replicate n (0 : Int)).set 0 1 = rowL F.toDesc n e0 from by
      apply List.ext_getElem?
      intro i
      unfold rowL lst
      rw [List.getElem?_map]
      by_cases hi : i < n
      · rw [List.getElem?_range hi]
        by_cases e : i = 0
        · subst e
          rw [List.getElem?_set_self (by simpa using hn0')]
          unfold e0
          simp [ci_one]
        · rw [List.getElem?_set_ne (fun h => e h.symm), List.getElem?_replicate_of_lt hi]
          unfold e0
          simp [e, ci_zero]
      · rw [List.getElem?_eq_none (by simp; omega), List.getElem?_eq_none (by simp; omega)]; rfl] at h
    exact h
  have hb2 : Below w1.heap.size w1 w2 := by rw [hw2]; exact hbA.setCell (p := ⟨w1.heap.size, 0, none⟩) (Nat.le_refl _) _
  clear hcA hfA hib0 hbA
  have hw2' := hw2
  simp only [World.setCell_alloc_at _ _ _ _ _ rfl] at hw2'
  try rw [← hw2']
  try rw [← hw2]
  clear hw2'
  replace hw2 := Lib.hid hw2
  have hB2 := hb1.trans (hb2.mono hb1.size)
  have hgf2 := (hg.below hB2).more hB2.size
  have hS2 := Lib.hid (hS (some ⟨w1.heap.size, 0, none⟩) n w2 hgf2 ((hrl.below hB2).more hB2.size) hib2.rd)
  clear hS hb1 hb2
  go_wp2_with (fail)
  (with_reducible refine hS2.out.mono ?_)
  rintro e w3 ⟨g3, rfl, hg3, hmp3, hb3⟩
  have hV3 := Lib.hid (hV _ g3 w2.heap.size w3 (hgf2.below hb3) hmp3 hb3.size hg3)
  clear hV hS2
  go_wp2_with (fail)
  (with_reducible refine hV3.out.mono ?_)
  rintro e w4 ⟨hb4, ⟨rfl, y, ⟨j, hj, hyj⟩, hk⟩ | ⟨b5, c, rfl, hb, hib, hs, hk⟩⟩
  · exact absurd (ker_of_ind hnM.out hd1 hn1 hI hk j hj) hyj
  · have hB4 := hB2.trans ((hb3.trans hb4).mono hB2.size)
    have hfin := Lib.hid (show _ ∧ _ ∧ _ ∧ _ from ⟨hib, (hs c).2 fun _ _ => rfl, fun y h => (hs y).1 h, hk⟩)
    clear hk hs hib hV3
    go_wp2_with (fail)
    go_ret2
    exact ⟨hB4, b5, c, rfl, hfin.out⟩
end Go.Proofs.Yteamndefbpdcjaa
