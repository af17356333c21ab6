/- Layer 7 of the program: basis, IsBasis, Coordinates, Dual. -/
import Derived.Test.YteamndefbpdcjaaSysW
import Derived.Test.YteamndefbpdcjaaTowA
namespace Go.Proofs.Yteamndefbpdcjaa
open Go.RowKit Cw
attribute [local go_sem] Oper.semAt_some

/-- The elements of a list of ints. -/
def elL (F : FD) (l : List Int) : Nat → R F.toDesc := fun j => eli F.toDesc (l[j]?.getD 0)
/-- l is a basis over the subfield of degree d. -/
def BasP (F : FD) (l : List Int) (d : Nat) : Prop := l.length = F.m / d ∧ IndS d (F.m / d) (elL F l)
open Classical in
/-- What basis answers. -/
noncomputable def basE (F : FD) (l : List Int) (d : Int) : Int := if divB F.m d = true then (if BasP F l d.toNat then 0 else 9) else 6
theorem basE_no {F : FD} {l : List Int} {d : Int} (h : divB F.m d = false) : basE F l d = 6 := by unfold basE; rw [if_neg (by rw [h]; decide)]
theorem basE_ok {F : FD} {l : List Int} {d : Nat} (h : divB F.m d = true) (hb : BasP F l d) : basE F l d = 0 := by unfold basE; rw [if_pos h, if_pos (by rw [Int.toNat_natCast]; exact hb)]
theorem basE_bad {F : FD} {l : List Int} {d : Nat} (h : divB F.m d = true) (hb : ¬ BasP F l d) : basE F l d = 9 := by unfold basE; rw [if_pos h, if_neg (by rw [Int.toNat_natCast]; exact hb)]
theorem FD_M (F : FD) : FF.M (R F.toDesc) = F.m := rfl

set_option maxHeartbeats 2000000 in
theorem tBasis_any (F : FD) (l : List Int) (d : Int) (Al : Option Addr) (cl gf : Nat) (w : World) (hg : GF w w.heap.size gf F) (hrl : Rd w w.heap.size Al l) (hl : l.length ≤ maxLen) :
    Calls Try.prog 79 #[.pointer (some ⟨gf, 0, none⟩), .slice Al l.length cl, .int .i64 d] w fun e w' => e = .returned (.int .i64 (basE F l d)) ∧ Below w.heap.size w w' := by
  unfold maxLen at hl
  have hI := Lib.hid (isDegree_any F d gf w hg)
  by_cases hdv : divB F.m d = true
  · rw [hdv] at hI
    obtain ⟨dn, rfl, hk1, hkm, hkd⟩ := divB_nat hdv
    have hfm8 := F.m8
    have hd8 : dn ≤ 8 := by omega
    have hE := fun W h => Lib.hid (teach_any F 0 dn gf W h hk1 hd8)
    obtain ⟨n, hn⟩ : ∃ n, n = F.m / dn := ⟨_, rfl⟩
    have hn8 : n ≤ 8 := by rw [hn]; exact Nat.le_trans (Nat.div_le_self _ _) F.m8
    have hn1 : 1 ≤ n := by rw [hn]; exact Nat.div_pos hkm hk1
    have hnM : dn * n = FF.M (R F.toDesc) := by rw [hn, FD_M]; exact Nat.mul_div_cancel' hkd
    have hbad := basE_bad (l := l) hdv
    have hok := basE_ok (l := l) hdv
    unfold BasP at hbad hok
    rw [← hn] at hE hbad hok
    by_cases hln : l.length = n
    · have hS := fun A c W a b e => tSystem_any F n (n + 1) dn rfl hk1 hd8 hn.symm l hln (fun i => frob (dn * i) (eli F.toDesc 0)) Al A cl c gf W a b e
      have hV := fun M g L W a b c d => tSolve_any F n (n + 1) rfl M g n gf L W a b c d (by omega)
      have hq : ((l.length : Int) != (n : Int)) = false := by rw [hln]; simp
      have h9 : ¬ IndS dn n (elL F l) → basE F l dn = 9 := fun h => hbad fun e => h e.2
      have h0 : IndS dn n (elL F l) → basE F l dn = 0 := fun h => hok ⟨hln, h⟩
      replace h9 := Lib.hid h9
      replace h0 := Lib.hid h0
      replace hln := Lib.hid hln
      replace hnM := Lib.hid hnM
      clear hbad hok hdv hkd hkm hn hfm8
      go_enter Try.func79, Try.ntmps79
      go_wp2_with (fail)
      (with_reducible refine hI.out.mono ?_)
      rintro e w1 ⟨rfl, hb1⟩
      have hg1 := (hg.below hb1).more hb1.size
      have hE1 := hE w1 hg1
      go_wp2_with (fail)
      (with_reducible refine hE1.out.mono ?_)
      rintro e w2 ⟨g2, rfl, hg2, hib2, hb2⟩
      have hB2 := hb1.trans (hb2.mono hb1.size)
      have hgf2 := (hg.below hB2).more hB2.size
      have hS2 := Lib.hid (hS (some ⟨g2, 0, none⟩) n w2 hgf2 ((hrl.below hB2).more hB2.size) hib2.rd)
      clear hS hE hE1 hI hb1 hb2
      have hS3 := hS2
      rw [← hln.out] at hS2
      go_wp2_with (fail)
      have hS4 := hS3.out
      rw [← hln.out] at hS4
      rw [hln.out]
      (with_reducible refine hS3.out.mono ?_)
      rintro e w3 ⟨g3, rfl, hg3, hmp3, hb3⟩
      have hB3 := hB2.trans (hb3.mono hB2.size)
      have hV3 := Lib.hid (hV _ g3 w2.heap.size w3 (hgf2.below hb3) hmp3 hb3.size hg3)
      clear hV hS2 hS3 hS4
      go_wp2_with (fail)
      (with_reducible refine hV3.out.mono ?_)
      rintro e w4 ⟨hb4, ⟨rfl, x, ⟨j, hj, hxj⟩, hk⟩ | ⟨b5, x, rfl, hb, hib, hs, hk⟩⟩
      · have hfin : Hid (basE F l dn = 9) := h9.out fun h => hxj (ker_of_ind hnM.out hk1 hn1 h hk j hj)
        have hB4 := hB2.trans ((hb3.trans hb4).mono hB2.size)
        clear hk hxj hV3
        go_wp2_with (fail)
        go_ret
        exact ⟨by rw [hfin.out]; rfl, hB4⟩
      · have hfin : Hid (basE F l dn = 0) := h0.out (ind_of_ker hk)
        have hB4 := hB2.trans ((hb3.trans hb4).mono hB2.size)
        clear hk hs hib hV3
        go_wp2_with (fail)
        go_ret
        exact ⟨by rw [hfin.out]; rfl, hB4⟩
    · have hq : ((l.length : Int) != (n : Int)) = true := by rw [bne_iff_ne]; omega
      have hfin : Hid (basE F l dn = 9) := hbad fun e => hln e.1
      clear hbad hok hdv hkd hkm hn hfm8 hln hnM
      go_enter Try.func79, Try.ntmps79
      go_wp2_with (fail)
      (with_reducible refine hI.out.mono ?_)
      rintro e w1 ⟨rfl, hb1⟩
      have hg1 := (hg.below hb1).more hb1.size
      have hE1 := hE w1 hg1
      go_wp2_with (fail)
      (with_reducible refine hE1.out.mono ?_)
      rintro e w2 ⟨g2, rfl, hg2, hib2, hb2⟩
      go_wp2_with (fail)
      go_ret
      exact ⟨by rw [hfin.out]; rfl, hb1.trans (hb2.mono hb1.size)⟩
  · rw [Bool.not_eq_true] at hdv
    have hfin := Lib.hid (basE_no (l := l) hdv)
    rw [hdv] at hI
    clear hdv
    go_enter Try.func79, Try.ntmps79
    go_wp2_with (fail)
    (with_reducible refine hI.out.mono ?_)
    rintro e w1 ⟨rfl, hb1⟩
    go_wp2_with (fail)
    go_ret
    exact ⟨by rw [hfin.out]; rfl, hb1⟩
end Go.Proofs.Yteamndefbpdcjaa
