/- Layers 5 and 38 of the program: Mul of two factors, Degree, Sub, euclid. Layer 38 of the program: euclid. -/
import Derived.Test.YtpflgmbcmfllgaaZeGpoC
import Derived.Test.YtpflgmbcmfllgaaZeDivP
import Derived.Test.YtpflgmbcmfllgaaZeDivW
namespace Go.Proofs.Ytpflgmbcmfllgaa
open Go.RowKit Cw
open Cw.CField (inv)
attribute [local go_sem] Oper.semAt_some

theorem DivI.can {D : Desc} {p q quo rem : List Int} (h : DivI D p q quo rem) : DivI D (canI D p) (canI D q) quo rem :=
  ⟨h.cq, h.cr, fun s => by rw [cfR_canI, cfR_canI]; exact h.eq s, by rw [canI_canI]; exact h.lt⟩

set_option maxHeartbeats 1000000 in
theorem gDegree_any (F : FD) (p : List Int) (A1 : Option Addr) (c1 g : Nat) (w : World) (hg : GF w w.heap.size g F) (hr1 : Rd w w.heap.size A1 p) (hl : p.length ≤ 70000) :
    Calls Try.prog 174 #[.pointer (some ⟨g, 0, none⟩), .slice A1 p.length c1] w fun e w' => e = .returned (.int .i64 (((canI F.toDesc p).length : Int) - 1)) ∧ Below w.heap.size w w' := by
  have hC := Lib.hid (gCanonP_any F p A1 c1 g w hg hr1 hl)
  have hle := canI_le F.toDesc p
  obtain ⟨n, hn⟩ : ∃ n, n = (canI F.toDesc p).length := ⟨_, rfl⟩
  unfold GivesR at hC
  rw [← hn] at hC hle
  rw [← hn]
  have hw : IntKind.i64.wrap ((n : Int) - 1) = (n : Int) - 1 := IntWalk.i64_in _ (by omega)
  replace hn := Lib.hid hn
  go_enter Try.func174, Try.ntmps174
  go_wp2_with (fail)
  (with_reducible refine hC.out.mono ?_)
  rintro e w1 ⟨A', c', rfl, -, -, -, -, hb1⟩
  go_wp2_with (fail)
  go_ret
  exact ⟨rfl, hb1⟩

set_option maxHeartbeats 1000000 in
theorem gSubP_any (F : FD) (p q : List Int) (A1 A2 : Option Addr) (c1 c2 g : Nat) (w : World) (hg : GF w w.heap.size g F) (hr1 : Rd w w.heap.size A1 p) (hr2 : Rd w w.heap.size A2 q) (hl1 : p.length ≤ 70000) (hl2 : q.length ≤ 70000) :
    Calls Try.prog 175 #[.pointer (some ⟨g, 0, none⟩), .slice A1 p.length c1, .slice A2 q.length c2] w (GivesO (combL F.toDesc p (ci (-(1 : R F.toDesc))) q) w) := by
  have hN := gNeg_any F 1 g w hg
  rw [eli_one] at hN
  obtain ⟨m, hm⟩ : ∃ m, m = ci (-(1 : R F.toDesc)) := ⟨_, rfl⟩
  rw [← hm] at hN
  rw [← hm]
  have hC := fun W a b c => Lib.hid (gComb_any F p q m A1 A2 c1 c2 g W a b c hl1 hl2)
  replace hN := Lib.hid hN
  replace hm := Lib.hid hm
  unfold GivesO at hC ⊢
  go_enter Try.func175, Try.ntmps175
  go_wp2_with (fail)
  (with_reducible refine hN.out.mono ?_)
  rintro e w1 ⟨rfl, hb1⟩
  have hC1 := hC w1 ((hg.below hb1).more hb1.size) ((hr1.below hb1).more hb1.size) ((hr2.below hb1).more hb1.size)
  go_wp2_with (fail)
  (with_reducible refine hC1.out.mono ?_)
  rintro e w2 ⟨A', c', rfl, ho, hb2⟩
  go_wp2_with (fail)
  go_ret
  exact ⟨A', c', rfl, ho.base hb1.size, hb1.trans (hb2.mono hb1.size)⟩

/-- The product of the first k of two factors. -/
def mulK (D : Desc) (p q : List Int) : Nat → List Int
  | 0 => [1]
  | 1 => prodL D [1] p
  | _ + 2 => prodL D (prodL D [1] p) q
theorem mulK_le (D : Desc) (p q : List Int) (k : Nat) : (mulK D p q k).length ≤ p.length + q.length + 1 := by
  have h1 := prodL_le D [1] p
  have h2 := prodL_le D (prodL D [1] p) q
  match k with
  | 0 => simp [mulK]
  | 1 => simp [mulK] at *; omega
  | k + 2 => simp [mulK] at *; omega
set_option maxHeartbeats 2000000 in
theorem gMul2_any (F : FD) (p q : List Int) (A1 A2 : Option Addr) (c1 c2 g b : Nat) (w : World) (hg : GF w w.heap.size g F) (hr1 : Rd w w.heap.size A1 p) (hr2 : Rd w w.heap.size A2 q) (hl1 : p.length ≤ 9000) (hl2 : q.length ≤ 9000) (hb : b < w.heap.size) (hb0 : w.cell? ⟨b, 0, none⟩ = some (.slice A1 p.length c1)) (hb1 : w.cell? ⟨b, 1, none⟩ = some (.slice A2 q.length c2)) :
    Calls Try.prog 176 #[.pointer (some ⟨g, 0, none⟩), .slice (some ⟨b, 0, none⟩) 2 2] w (GivesR (prodL F.toDesc (prodL F.toDesc [1] p) q) w) := by
  have hP1 := fun A c W a d e f h => gProd_any F (mulK F.toDesc p q 0) p A A1 c c1 g W a d e f h
  have hP2 := fun A c W a d e f h => gProd_any F (mulK F.toDesc p q 1) q A A2 c c2 g W a d e f h
  rw [show prodL F.toDesc (mulK F.toDesc p q 0) p = mulK F.toDesc p q 1 from rfl] at hP1
  rw [show prodL F.toDesc (mulK F.toDesc p q 1) q = mulK F.toDesc p q 2 from rfl] at hP2
  rw [show prodL F.toDesc (prodL F.toDesc [1] p) q = mulK F.toDesc p q 2 from rfl]
  have hle := mulK_le F.toDesc p q
  obtain ⟨Y, hY⟩ : ∃ Y, Y = w.alloc (.cells #[.int .i64 1] 3) := ⟨_, rfl⟩
  have hB : Below w.heap.size w Y := by rw [hY]; exact (Below.refl _ _).alloc (Nat.le_refl _) _
  have hrd : Rd Y Y.heap.size (some ⟨w.heap.size, 0, none⟩) (mulK F.toDesc p q 0) := by rw [hY]; exact (IB.new w [1]).rd
  have h01 : (mulK F.toDesc p q 0).length = 1 := rfl
  have hmx : (mulK F.toDesc p q 2).length ≤ maxLen := by have := hle 2; unfold maxLen; omega
  generalize mulK F.toDesc p q = X at *
  replace hY := Lib.hid hY
  unfold GivesR at *
  replace hP1 := fun A c W a d e f h => Lib.hid (hP1 A c W a d e f h)
  replace hP2 := fun A c W a d e f h => Lib.hid (hP2 A c W a d e f h)
  go_enter Try.func176, Try.ntmps176
  go_wp2_with (fail)
  rw [← hY.out]
  go_loopw [11, 5] (fun i v wr => ∃ k : Nat, k ≤ 2 ∧ i = .int .i64 k ∧ (∃ A' c', v = .slice A' (X k).length c' ∧ Rd wr wr.heap.size A' (X k) ∧ (X k).length ≤ c' ∧ c' ≤ maxLen ∧ (∀ a, A' = some a → w.heap.size ≤ a.block)) ∧ Below w.heap.size w wr) (fun i _ _ => 2 - (intOf i).toNat)
  case atStart => exact ⟨0, by omega, rfl, ⟨_, _, by rw [h01], hrd, by rw [h01]; exact Nat.le_refl _, by unfold maxLen; omega, fun a e => by cases e; exact Nat.le_refl _⟩, hB⟩
  case round =>
    clear hrd hB hY
    obtain ⟨w2, rfl⟩ : ∃ w2 : World, w2 = wr := ⟨_, rfl⟩
    obtain ⟨k, hk, rfl, ⟨A', c', rfl, hrd, hc1, hc2, hA'⟩, hbw⟩ := hrel
    have hg2 := (hg.below hbw).more hbw.size
    have hx0 := (hbw.cell (p := ⟨b, 0, none⟩) hb).trans hb0
    have hx1 := (hbw.cell (p := ⟨b, 1, none⟩) hb).trans hb1
    have hlk := hle k
    rcases (show k = 0 ∨ k = 1 ∨ k = 2 by omega) with rfl | rfl | rfl
    · have hM := hP1 A' c' w2 hg2 hrd ((hr1.below hbw).more hbw.size) (by omega) (by omega)
      clear hb0 hb1 h01
      go_wp2_with (fail)
      (with_reducible refine hM.out.mono ?_)
      rintro e w4 ⟨A4, c4, rfl, hr4, hc4, hc4', hA4, hb4⟩
      go_wp2_with (fail)
      go_roundw
      case rel => exact ⟨1, by omega, by go_num, ⟨_, _, rfl, hr4, hc4, hc4', fun a e => Nat.le_trans hbw.size (hA4 a e)⟩, hbw.trans (hb4.mono hbw.size)⟩
      case measure => simp [intOf]
    · have hM := hP2 A' c' w2 hg2 hrd ((hr2.below hbw).more hbw.size) (by omega) (by omega)
      clear hb0 hb1 h01
      go_wp2_with (fail)
      (with_reducible refine hM.out.mono ?_)
      rintro e w4 ⟨A4, c4, rfl, hr4, hc4, hc4', hA4, hb4⟩
      go_wp2_with (fail)
      go_roundw
      case rel => exact ⟨2, by omega, by go_num, ⟨_, _, rfl, hr4, hc4, hc4', fun a e => Nat.le_trans hbw.size (hA4 a e)⟩, hbw.trans (hb4.mono hbw.size)⟩
      case measure => simp [intOf]
    · clear hb0 hb1 h01
      go_wp2_with (fail)
      go_ret
      exact ⟨A', c', rfl, hrd, hc1, hc2, hA', hbw⟩
end Go.Proofs.Ytpflgmbcmfllgaa

namespace Go.Proofs.Ytpflgmbcmfllgaa
open Go.RowKit Cw
open Cw.CField (inv)
attribute [local go_sem] Oper.semAt_some

/-- What euclid hands back. -/
def EuPost (F : FD) (n k : Nat) (X Y : Nat → R F.toDesc) (w : World) (e : Ending) (w' : World) : Prop :=
  ∃ a b old t Ab cb At ct, e = .returned (.tuple #[.slice Ab b.length cb, .slice At t.length ct]) ∧ EI F n k X Y a (canI F.toDesc b) old t ∧ 2 * (canI F.toDesc b).length ≤ n + k + 1 ∧ Rd w' w'.heap.size Ab b ∧ Rd w' w'.heap.size At t ∧ b.length ≤ 1000 ∧ t.length ≤ 1000 ∧ Below w.heap.size w w'

set_option maxRecDepth 100000 in
set_option maxHeartbeats 8000000 in
theorem gEuclid_any (F : FD) (n k : Nat) (X Y : Nat → R F.toDesc) (a b : List Int) (hE : EI F n k X Y (canI F.toDesc a) (canI F.toDesc b) [] [1]) (ha : a.length ≤ 1000) (hbl : b.length ≤ 1000) (hn : n ≤ 64) (hk : k ≤ 64) (A1 A2 : Option Addr) (c1 c2 g : Nat) (w : World) (hg : GF w w.heap.size g F) (hr1 : Rd w w.heap.size A1 a) (hr2 : Rd w w.heap.size A2 b) :
    Calls Try.prog 158 #[.pointer (some ⟨g, 0, none⟩), .slice A1 a.length c1, .slice A2 b.length c2, .int .i64 ((n : Int) + (k : Int))] w (EuPost F n k X Y w) := by
  obtain ⟨bd, hbd⟩ : ∃ bd : Int, bd = (n : Int) + (k : Int) := ⟨_, rfl⟩
  rw [← hbd]
  obtain ⟨Z, hZ⟩ : ∃ Z, Z = (w.alloc (.cells #[] 3)).alloc (.cells #[.int .i64 1] 3) := ⟨_, rfl⟩
  have hB : Below w.heap.size w Z := by rw [hZ]; exact ((Below.refl _ _).alloc (Nat.le_refl _) _).alloc (by simp) _
  have hrt : Rd Z Z.heap.size (some ⟨w.heap.size + 1, 0, none⟩) [1] := by
    have h := (IB.new (w.alloc (.cells #[] 3)) [1]).rd
    rw [hZ]
    simpa using h
  obtain ⟨s, hs⟩ : ∃ s, s = w.heap.size := ⟨_, rfl⟩
  replace hE := Lib.hid hE
  replace hZ := Lib.hid hZ
  replace hbd := Lib.hid hbd
  unfold EuPost
  go_enter Try.func158, Try.ntmps158
  go_wp2_with (fail)
  rw [← hZ.out]
  simp only [← hs]
  rw [← hs] at hrt
  replace hs := Lib.hid hs
  go_loopw [1, 2, 9, 10] (fun v1 v2 v9 v10 wr => ∃ (a b old t : List Int) (Aa Ab Ao At : Option Addr) (ca cb co ct : Nat), v1 = .slice Aa a.length ca ∧ v2 = .slice Ab b.length cb ∧ v9 = .slice At t.length ct ∧ v10 = .slice Ao old.length co ∧ Hid (EI F n k X Y (canI F.toDesc a) (canI F.toDesc b) old t) ∧ a.length ≤ 1000 ∧ b.length ≤ 1000 ∧ Rd wr wr.heap.size Aa a ∧ Rd wr wr.heap.size Ab b ∧ Rd wr wr.heap.size Ao old ∧ Rd wr wr.heap.size At t ∧ Below w.heap.size w wr) (fun _ v _ _ _ => lenV v)
  case atStart => exact ⟨a, b, [], [1], A1, A2, _, _, c1, c2, _, _, rfl, rfl, rfl, rfl, hE, ha, hbl, (hr1.below hB).more hB.size, (hr2.below hB).more hB.size, Rd.nil, hrt, hB⟩
  case round =>
    clear hrt hE hZ hB hr1 hr2 ha hbl
    obtain ⟨w2, rfl⟩ : ∃ w2 : World, w2 = wr := ⟨_, rfl⟩
    obtain ⟨a, b, old, t, Aa, Ab, Ao, At, ca, cb, co, ct, rfl, rfl, rfl, rfl, hE, ha, hbl, hra, hrb, hro, hrt, hbw⟩ := hrel
    have hg2 := (hg.below hbw).more hbw.size
    have hD := gDegree_any F b Ab cb g w2 hg2 hrb (by omega)
    have hcle := canI_le F.toDesc b
    have hts : t.length ≤ n + 1 ∧ old.length ≤ n + 1 := by have h1 := hE.out.sum; have h2 := hE.out.lab; have h3 := hE.out.lot; omega
    obtain ⟨N, hN⟩ : ∃ N, N = (canI F.toDesc b).length := ⟨_, rfl⟩
    rw [← hN] at hD
    have hw : IntKind.i64.wrap (2 * ((N : Int) - 1)) = 2 * ((N : Int) - 1) := IntWalk.i64_in _ (by omega)
    by_cases hc : n + k + 2 ≤ 2 * N
    · have hc2 : bd ≤ 2 * ((N : Int) - 1) := by rw [hbd.out]; omega
      obtain ⟨d, hd⟩ : ∃ d, N = d + 1 := ⟨N - 1, by omega⟩
      have hDv := fun W x y z => gDivMod_any F a b d (by rw [← hN, hd]) Aa Ab ca cb g W x y z (by omega) (by omega)
      unfold DivPost at hDv
      replace hDv := fun W x y z => Lib.hid (hDv W x y z)
      replace hD := Lib.hid hD
      replace hd := Lib.hid hd
      replace hcle := Lib.hid hcle
      replace hts := Lib.hid hts
      rw [hN] at hc
      replace hc := Lib.hid hc
      replace hN := Lib.hid hN
      go_wp2_with (fail)
      (with_reducible refine hD.out.mono ?_)
      rintro e w3 ⟨rfl, hb3⟩
      have hD3 := hDv w3 ((hg2.below hb3).more hb3.size) ((hra.below hb3).more hb3.size) ((hrb.below hb3).more hb3.size)
      go_wp2_with (fail)
      (with_reducible refine hD3.out.mono ?_)
      rintro e w4 ⟨q, r, Aq, cq, Ar, cr, rfl, hoq, hrr, hdv, hb4⟩
      have hb24 := hb3.trans (hb4.mono hb3.size)
      have hrq : Rd w4 w4.heap.size Aq q := by obtain ⟨A', c', e', -, h', -⟩ := hoq.form; cases e'; exact h'
      have hnew := hE.out.step hc.out hdv.can
      have hrl : r.length < (canI F.toDesc b).length := by have := hdv.lt; exact this
      have hql : q.length ≤ 1000 := by
        have h1 := hdv.can.deg (canI_canI _ _) (canI_canI _ _) (by have := hc.out; omega) (by have := hE.out.lab; omega)
        have h2 := canI_le F.toDesc a
        omega
      rw [← hdv.cr] at hnew
      have hnew2 : Hid (EI F n k X Y (canI F.toDesc b) (canI F.toDesc r) t (nextL F.toDesc old q t)) := by have h := hnew; rw [hdv.cr] at h ⊢; exact h
      clear hnew
      have hrb4 := (hrb.below hb24).more hb24.size
      have hrt4 := (hrt.below hb24).more hb24.size
      have hro4 := (hro.below hb24).more hb24.size
      have hg4 := (hg2.below hb24).more hb24.size
      have hB4 := hbw.trans (hb24.mono hbw.size)
      have hrl2 : Hid (r.length < b.length) := Nat.lt_of_lt_of_le hrl hcle.out
      replace hrl := Lib.hid hrl
      replace hql := Lib.hid hql
      obtain ⟨V, hV⟩ : ∃ V, V = w4.alloc (.cells #[.slice Aq q.length cq, .slice At t.length ct] 22) := ⟨_, rfl⟩
      have hbV : Below w4.heap.size w4 V := by rw [hV]; exact (Below.refl _ _).alloc (Nat.le_refl _) _
      have hv0 : V.cell? ⟨w4.heap.size, 0, none⟩ = some (.slice Aq q.length cq) := by rw [hV]; simp [go_sem]
      have hv1 : V.cell? ⟨w4.heap.size, 1, none⟩ = some (.slice At t.length ct) := by rw [hV]; simp [go_sem]
      have hvs : w4.heap.size < V.heap.size := by rw [hV]; simp
      have hM := gMul2_any F q t Aq At cq ct g w4.heap.size V ((hg4.below hbV).more hbV.size) ((hrq.below hbV).more hbV.size) ((hrt4.below hbV).more hbV.size) (by have := hql.out; omega) (by have := hts.out; omega) hvs hv0 hv1
      have hpl : (prodL F.toDesc (prodL F.toDesc [1] q) t).length ≤ 70000 := by have := mulK_le F.toDesc q t 2; simp only [mulK] at this; have := hts.out; have := hql.out; omega
      have hS := fun A' c' W x y z => gSubP_any F old (prodL F.toDesc (prodL F.toDesc [1] q) t) Ao A' co c' g W x y z (by have := hts.out; omega) hpl
      rw [show combL F.toDesc old (ci (-(1 : R F.toDesc))) (prodL F.toDesc (prodL F.toDesc [1] q) t) = nextL F.toDesc old q t from rfl] at hS
      unfold GivesR at hM
      unfold GivesO at hS
      replace hM := Lib.hid hM
      replace hS := fun A' c' W x y z => Lib.hid (hS A' c' W x y z)
      replace hpl := Lib.hid hpl
      replace hV := Lib.hid hV
      clear hv0 hv1 hD hD3 hDv hoq
      go_wp2_with (fail)
      rw [← hV.out]
      (with_reducible refine hM.out.mono ?_)
      rintro e w5 ⟨A5, c5, rfl, hr5, -, -, -, hb5⟩
      have hb45 := hbV.trans (hb5.mono hbV.size)
      have hS5 := hS A5 c5 w5 ((hg4.below hb45).more hb45.size) ((hro4.below hb45).more hb45.size) hr5
      go_wp2_with (fail)
      (with_reducible refine hS5.out.mono ?_)
      rintro e w6 ⟨A6, c6, rfl, ho6, hb6⟩
      have hr6 : Rd w6 w6.heap.size A6 (nextL F.toDesc old q t) := by obtain ⟨A', c', e', -, h', -⟩ := ho6.form; cases e'; exact h'
      have hb46 := hb45.trans (hb6.mono hb45.size)
      go_wp2_with (fail)
      go_roundw
      case rel => exact ⟨b, r, t, nextL F.toDesc old q t, Ab, Ar, At, A6, cb, cr, ct, c6, rfl, rfl, rfl, rfl, hnew2, hbl, by have := hrl2.out; omega, (hrb4.below hb46).more hb46.size, (hrr.below hb46).more hb46.size, (hrt4.below hb46).more hb46.size, hr6, hB4.trans (hb46.mono hB4.size)⟩
      case measure => simp [lenV]; exact hrl2.out
    · have hc2 : ¬ bd ≤ 2 * ((N : Int) - 1) := by rw [hbd.out]; omega
      replace hD := Lib.hid hD
      have hfin : 2 * (canI F.toDesc b).length ≤ n + k + 1 := by omega
      have htl : t.length ≤ 1000 := by omega
      replace hN := Lib.hid hN
      replace hcle := Lib.hid hcle
      replace hts := Lib.hid hts
      replace hc := Lib.hid hc
      replace hfin := Lib.hid hfin
      go_wp2_with (fail)
      (with_reducible refine hD.out.mono ?_)
      rintro e w3 ⟨rfl, hb3⟩
      go_wp2_with (fail)
      go_ret2
      exact ⟨canI F.toDesc a, b, old, t, Ab, cb, At, ct, rfl, hE.out, hfin.out, (hrb.below hb3).more hb3.size, (hrt.below hb3).more hb3.size, hbl, htl, hbw.trans (hb3.mono hbw.size)⟩
end Go.Proofs.Ytpflgmbcmfllgaa
