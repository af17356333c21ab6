/- Layer 7 of the program: basis, IsBasis, Coordinates, Dual. Layer 7 of the program: IsBasis, Coordinates, Dual. Normal elements: the plain part. -/
import Derived.Test.YtakonlfojblcmaaZdRF
import Derived.Test.YtakonlfojblcmaaZdNrm
import Derived.Test.YtakonlfojblcmaaZdTowE
import Derived.Test.YtakonlfojblcmaaZdSysW
import Derived.Test.YtakonlfojblcmaaZdGpoA
import Derived.Test.YtakonlfojblcmaaZdDot
namespace Go.Proofs.Ytakonlfojblcmaa
open Go.RowKit Cw
attribute [local go_sem] Oper.semAt_some

def elL (F : FD) (l : List Int) : Nat → R F.toDesc := fun j => eli F.toDesc (l[j]?.getD 0)
def BasP (F : FD) (l : List Int) (d : Nat) : Prop := l.length = F.m / d ∧ IndS d (F.m / d) (elL F l)
open Classical in
noncomputable def basE (F : FD) (l : List Int) (d : Int) : Int := if divB F.m d = true then (if BasP F l d.toNat then 0 else 9) else 6
theorem basE_no {F : FD} {l : List Int} {d : Int} (h : divB F.m d = false) : basE F l d = 6 := by unfold basE; rw [if_neg (by rw [h]; decide)]
theorem basE_ok {F : FD} {l : List Int} {d : Nat} (h : divB F.m d = true) (hb : BasP F l d) : basE F l d = 0 := by unfold basE; rw [if_pos h, if_pos (by rw [Int.toNat_natCast]; exact hb)]
theorem basE_bad {F : FD} {l : List Int} {d : Nat} (h : divB F.m d = true) (hb : ¬ BasP F l d) : basE F l d = 9 := by unfold basE; rw [if_pos h, if_neg (by rw [Int.toNat_natCast]; exact hb)]
theorem FD_M (F : FD) : FF.M (R F.toDesc) = F.m := rfl

set_option maxHeartbeats 2000000 in
theorem tBasis_any (F : FD) (l : List Int) (d : Int) (Al : Option Addr) (cl gf : Nat) (w : World) (hg : GF w w.heap.size gf F) (hrl : Rd w w.heap.size Al l) (hl : l.length ≤ maxLen) :
    Calls Try.prog 105 #[.pointer (some ⟨gf, 0, none⟩), .slice Al l.length cl, .int .i64 d] w fun e w' => e = .returned (.int .i64 (basE F l d)) ∧ Below w.heap.size w w' := by
  unfold maxLen at hl
  have hI := Lib.hid (isDegree_any F d gf w hg)
  by_cases hdv : divB F.m d = true
  · rw [hdv] at hI
    obtain ⟨dn, rfl, hk1, hkm, hkd⟩ := divB_nat hdv
    have hfm8 := F.m8
    have hd8 : dn ≤ 8 := by omega
    have hE := fun W h => Lib.hid (teach_any F 0 dn gf W h hk1 hd8)
    obtain ⟨n, hn⟩ : ∃ n, n = F.m / dn := ⟨_, rfl⟩
    have hn8 : n ≤ 8 := by rw [hn]; exact Nat.le_trans (Nat.div_le_self _ _) F.m8
    have hn1 : 1 ≤ n := by rw [hn]; exact Nat.div_pos hkm hk1
    have hnM : dn * n = FF.M (R F.toDesc) := by rw [hn, FD_M]; exact Nat.mul_div_cancel' hkd
    have hbad := basE_bad (l := l) hdv
    have hok := basE_ok (l := l) hdv
    unfold BasP at hbad hok
    rw [← hn] at hE hbad hok
    by_cases hln : l.length = n
    · have hS := fun A c W a b e => tSystem_any F n (n + 1) dn rfl hk1 hd8 hn.symm l hln (fun i => frob (dn * i) (eli F.toDesc 0)) Al A cl c gf W a b e
      have hV := fun M g L W a b c d => tSolve_any F n (n + 1) rfl M g n gf L W a b c d (by omega)
      have hq : ((l.length : Int) != (n : Int)) = false := by rw [hln]; simp
      have h9 : ¬ IndS dn n (elL F l) → basE F l dn = 9 := fun h => hbad fun e => h e.2
      have h0 : IndS dn n (elL F l) → basE F l dn = 0 := fun h => hok ⟨hln, h⟩
      replace h9 := Lib.hid h9
      replace h0 := Lib.hid h0
      replace hln := Lib.hid hln
      replace hnM := Lib.hid hnM
      clear hbad hok hdv hkd hkm hn hfm8
      go_enter Try.func105, Try.ntmps105
      go_wp2_with (fail)
      (with_reducible refine hI.out.mono ?_)
      rintro e w1 ⟨rfl, hb1⟩
      have hg1 := (hg.below hb1).more hb1.size
      have hE1 := hE w1 hg1
      go_wp2_with (fail)
      (with_reducible refine hE1.out.mono ?_)
      rintro e w2 ⟨g2, rfl, hg2, hib2, hb2⟩
      have hB2 := hb1.trans (hb2.mono hb1.size)
      have hgf2 := (hg.below hB2).more hB2.size
      have hS2 := Lib.hid (hS (some ⟨g2, 0, none⟩) n w2 hgf2 ((hrl.below hB2).more hB2.size) hib2.rd)
      clear hS hE hE1 hI hb1 hb2
      have hS3 := hS2
      rw [← hln.out] at hS2
      go_wp2_with (fail)
      have hS4 := hS3.out
      rw [← hln.out] at hS4
      rw [hln.out]
      (with_reducible refine hS3.out.mono ?_)
      rintro e w3 ⟨g3, rfl, hg3, hmp3, hb3⟩
      have hB3 := hB2.trans (hb3.mono hB2.size)
      have hV3 := Lib.hid (hV _ g3 w2.heap.size w3 (hgf2.below hb3) hmp3 hb3.size hg3)
      clear hV hS2 hS3 hS4
      go_wp2_with (fail)
      (with_reducible refine hV3.out.mono ?_)
      rintro e w4 ⟨hb4, ⟨rfl, x, ⟨j, hj, hxj⟩, hk⟩ | ⟨b5, x, rfl, hb, hib, hs, hk⟩⟩
      · have hfin : Hid (basE F l dn = 9) := h9.out fun h => hxj (ker_of_ind hnM.out hk1 hn1 h hk j hj)
        have hB4 := hB2.trans ((hb3.trans hb4).mono hB2.size)
        clear hk hxj hV3
        go_wp2_with (fail)
        go_ret
        exact ⟨by rw [hfin.out]; rfl, hB4⟩
      · have hfin : Hid (basE F l dn = 0) := h0.out (ind_of_ker hk)
        have hB4 := hB2.trans ((hb3.trans hb4).mono hB2.size)
        clear hk hs hib hV3
        go_wp2_with (fail)
        go_ret
        exact ⟨by rw [hfin.out]; rfl, hB4⟩
    · have hq : ((l.length : Int) != (n : Int)) = true := by rw [bne_iff_ne]; omega
      have hfin : Hid (basE F l dn = 9) := hbad fun e => hln e.1
      clear hbad hok hdv hkd hkm hn hfm8 hln hnM
      go_enter Try.func105, Try.ntmps105
      go_wp2_with (fail)
      (with_reducible refine hI.out.mono ?_)
      rintro e w1 ⟨rfl, hb1⟩
      have hg1 := (hg.below hb1).more hb1.size
      have hE1 := hE w1 hg1
      go_wp2_with (fail)
      (with_reducible refine hE1.out.mono ?_)
      rintro e w2 ⟨g2, rfl, hg2, hib2, hb2⟩
      go_wp2_with (fail)
      go_ret
      exact ⟨by rw [hfin.out]; rfl, hb1.trans (hb2.mono hb1.size)⟩
  · rw [Bool.not_eq_true] at hdv
    have hfin := Lib.hid (basE_no (l := l) hdv)
    rw [hdv] at hI
    clear hdv
    go_enter Try.func105, Try.ntmps105
    go_wp2_with (fail)
    (with_reducible refine hI.out.mono ?_)
    rintro e w1 ⟨rfl, hb1⟩
    go_wp2_with (fail)
    go_ret
    exact ⟨by rw [hfin.out]; rfl, hb1⟩
end Go.Proofs.Ytakonlfojblcmaa

namespace Go.Proofs.Ytakonlfojblcmaa
open Go.RowKit Cw
attribute [local go_sem] Oper.semAt_some

set_option maxHeartbeats 1000000 in
theorem tIsBasis_any (F : FD) (l : List Int) (d : Int) (Al : Option Addr) (cl gf : Nat) (w : World) (hg : GF w w.heap.size gf F) (hrl : Rd w w.heap.size Al l) (hl : l.length ≤ maxLen) :
    Calls Try.prog 124 #[.pointer (some ⟨gf, 0, none⟩), .slice Al l.length cl, .int .i64 d] w fun e w' => e = .returned (.bool (basE F l d == 0)) ∧ Below w.heap.size w w' := by
  have hB := Lib.hid (tBasis_any F l d Al cl gf w hg hrl hl)
  go_enter Try.func124, Try.ntmps124
  go_wp2_with (fail)
  (with_reducible refine hB.out.mono ?_)
  rintro e w1 ⟨rfl, hb1⟩
  go_wp2_with (fail)
  go_ret
  exact ⟨rfl, hb1⟩

def CoorLow (F : FD) (l : List Int) (d n : Nat) (x : Int) (w : World) (e : Ending) (w' : World) : Prop :=
  Below w.heap.size w w' ∧ ∃ b, ∃ c : Nat → R F.toDesc, e = .returned (.tuple #[.slice (some ⟨b, 0, none⟩) n n, .int .i64 0]) ∧ w.heap.size ≤ b ∧ IB w' b (rowL F.toDesc n c) ∧ (∀ j, j < n → InSub d (c j)) ∧ rsum n (fun j => c j * elL F l j) = eli F.toDesc x
set_option maxHeartbeats 2000000 in
theorem tCoor_low (F : FD) (l : List Int) (d n : Nat) (x : Int) (Al : Option Addr) (cl gf : Nat) (w : World) (hg : GF w w.heap.size gf F) (hrl : Rd w w.heap.size Al l) (hd1 : 1 ≤ d) (hdm : d ≤ F.m) (hkd : d ∣ F.m) (hn : F.m / d = n) (hln : l.length = n) (hI : IndS d n (elL F l)) :
    Calls Try.prog 83 #[.pointer (some ⟨gf, 0, none⟩), .slice Al n cl, .int .i64 d, .int .i64 x] w (CoorLow F l d n x w) := by
  have hfm8 := F.m8
  have hd8 : d ≤ 8 := by omega
  have hn8 : n ≤ 8 := by rw [← hn]; exact Nat.le_trans (Nat.div_le_self _ _) F.m8
  have hn1 : 1 ≤ n := by rw [← hn]; exact Nat.div_pos hdm hd1
  have hnM : d * n = FF.M (R F.toDesc) := by rw [← hn, FD_M]; exact Nat.mul_div_cancel' hkd
  have hB := tBasis_any F l d Al cl gf w hg hrl (by unfold maxLen; omega)
  rw [basE_ok (divB_of hd1 hkd F.m1) (by unfold BasP; rw [hn]; exact ⟨hln, hI⟩), hln] at hB
  have hE := fun W h => teach_any F x d gf W h hd1 hd8
  rw [hn] at hE
  have hS := fun A c W a b e => tSystem_any F n (n + 1) d rfl hd1 hd8 hn l hln (fun i => frob (d * i) (eli F.toDesc x)) Al A cl c gf W a b e
  have hV := fun M g L W a b c d => tSolve_any F n (n + 1) rfl M g n gf L W a b c d (by omega)
  unfold CoorLow
  replace hB := Lib.hid hB
  replace hE := fun W h => Lib.hid (hE W h)
  replace hln := Lib.hid hln
  replace hnM := Lib.hid hnM
  clear hdm hkd hn hfm8
  go_enter Try.func83, Try.ntmps83
  go_wp2_with (fail)
  (with_reducible refine hB.out.mono ?_)
  rintro e w1 ⟨rfl, hb1⟩
  have hE1 := hE w1 ((hg.below hb1).more hb1.size)
  go_wp2_with (fail)
  (with_reducible refine hE1.out.mono ?_)
  rintro e w2 ⟨g2, rfl, hg2, hib2, hb2⟩
  have hB2 := hb1.trans (hb2.mono hb1.size)
  have hgf2 := (hg.below hB2).more hB2.size
  have hS2 := Lib.hid (hS (some ⟨g2, 0, none⟩) n w2 hgf2 ((hrl.below hB2).more hB2.size) hib2.rd)
  clear hS hE hE1 hb1 hb2
  go_wp2_with (fail)
  (with_reducible refine hS2.out.mono ?_)
  rintro e w3 ⟨g3, rfl, hg3, hmp3, hb3⟩
  have hV3 := Lib.hid (hV _ g3 w2.heap.size w3 (hgf2.below hb3) hmp3 hb3.size hg3)
  clear hV hS2
  go_wp2_with (fail)
  (with_reducible refine hV3.out.mono ?_)
  rintro e w4 ⟨hb4, ⟨rfl, y, ⟨j, hj, hyj⟩, hk⟩ | ⟨b5, c, rfl, hb, hib, hs, hk⟩⟩
  · exact absurd (ker_of_ind hnM.out hd1 hn1 hI hk j hj) hyj
  · obtain ⟨h1, h2⟩ := coor_sub hnM.out hs
    have hB4 := hB2.trans ((hb3.trans hb4).mono hB2.size)
    have hlo : w.heap.size ≤ b5 := Nat.le_trans (hB2.trans (hb3.mono hB2.size)).size hb
    have hfin := Lib.hid (show _ ∧ _ ∧ _ from ⟨hib, h1, h2 hn1⟩)
    clear hk hs hib hV3 h1 h2
    go_wp2_with (fail)
    go_ret2
    exact ⟨hB4, b5, c, rfl, hlo, hfin.out⟩

end Go.Proofs.Ytakonlfojblcmaa

namespace Go.Proofs.Ytakonlfojblcmaa
open Go.RowKit Go.Shelf Cw
attribute [local go_sem] Oper.semAt_some

def NrmI (F : FD) (d n : Nat) (x : Int) : Prop := IndS d n fun i => frob (d * i) (eli F.toDesc x)
def IsNrm (F : FD) (d n k : Nat) : Prop := k < F.q ∧ NrmI F d n k ∧ ∀ j, j < k → ¬ NrmI F d n j
theorem isNrm_ex (F : FD) {d : Nat} (hd : d ∣ F.m) (h1 : 1 ≤ d) : ∃ k, IsNrm F d (F.m / d) k := by
  obtain ⟨u, hu⟩ := normal_ex F hd h1
  have h : ∀ n, n ≤ rcode u → (∃ k, IsNrm F d (F.m / d) k) ∨ ∀ j, j < n → ¬ NrmI F d (F.m / d) j := fun n => by
    induction n with
    | zero => exact fun _ => .inr fun j hj => absurd hj (by omega)
    | succ n ih =>
      intro hn
      rcases ih (by omega) with h1 | h1
      · exact .inl h1
      · by_cases e : NrmI F d (F.m / d) n
        · exact .inl ⟨n, by have := rcode_lt u; omega, e, h1⟩
        · refine .inr fun j hj => ?_
          rcases (by omega : j < n ∨ j = n) with h2 | rfl
          · exact h1 j h2
          · exact e
  rcases h (rcode u) (Nat.le_refl _) with h1 | h1
  · exact h1
  · exact ⟨rcode u, rcode_lt u, by unfold NrmI; rw [eli_nat (rcode_lt u), rel_rcode]; exact hu, h1⟩
theorem IsNrm.uniq {F : FD} {d n k k' : Nat} (h1 : IsNrm F d n k) (h2 : IsNrm F d n k') : k = k' := by
  rcases Nat.lt_trichotomy k k' with h | h | h
  · exact absurd h1.2.1 (h2.2.2 k h)
  · exact h
  · exact absurd h2.2.1 (h1.2.2 k' h)
theorem elL_frobs (F : FD) (d n : Nat) (u : R F.toDesc) {j : Nat} (hj : j < n) : elL F (frobs d u n) j = frob (d * j) u := by
  unfold elL frobs; rw [lst_get _ hj, eli_ci]
theorem IndS.congr7 {F : Type} [FF F] {d n : Nat} {l l' : Nat → F} (h : IndS d n l) (he : ∀ j, j < n → l j = l' j) : IndS d n l' := fun c hc hz => h c hc (by rw [← hz]; exact rsum_congr fun j hj => by rw [he j hj])
theorem nrm_bas (F : FD) {d : Nat} (hdv : divB F.m d = true) (x : Int) : (NrmI F d (F.m / d) x → (basE F (frobs d (eli F.toDesc x) (F.m / d)) d == 0) = true) ∧ (¬ NrmI F d (F.m / d) x → (basE F (frobs d (eli F.toDesc x) (F.m / d)) d == 0) = false) := by
  have hl : (frobs d (eli F.toDesc x) (F.m / d)).length = F.m / d := frobs_length _ _ _
  have he : NrmI F d (F.m / d) x ↔ IndS d (F.m / d) (elL F (frobs d (eli F.toDesc x) (F.m / d))) :=
    ⟨fun h => IndS.congr7 h fun j hj => (elL_frobs F d _ _ hj).symm, fun h => IndS.congr7 h fun j hj => elL_frobs F d _ _ hj⟩
  refine ⟨fun h => ?_, fun h => ?_⟩
  · rw [basE_ok hdv ⟨hl, he.1 h⟩]; rfl
  · rw [basE_bad hdv (fun e => h (he.2 e.2))]; rfl
theorem upI_prefix {p : List Int} {x : Int} {q : Nat} (h : p ++ [x] <+: upI q) : ∃ k : Nat, k < q ∧ x = (k : Int) ∧ ∀ j : Nat, j < k → (j : Int) ∈ p := by
  obtain ⟨t, ht⟩ := h
  have hl : (upI q).length = q := by unfold upI; simp
  have hg : ∀ i, i < q → (upI q)[i]? = some (i : Int) := fun i hi => by unfold upI; rw [List.getElem?_map, List.getElem?_range hi]; rfl
  have hpl : p.length < q := by rw [← hl, ← ht]; simp
  refine ⟨p.length, hpl, ?_, fun j hj => ?_⟩
  · have h1 := hg p.length hpl
    rw [← ht, List.append_assoc, List.getElem?_append_right (Nat.le_refl _), Nat.sub_self] at h1
    simpa using h1
  · have h1 := hg j (by omega)
    rw [← ht, List.append_assoc, List.getElem?_append_left hj] at h1
    exact List.mem_of_getElem? h1

end Go.Proofs.Ytakonlfojblcmaa
