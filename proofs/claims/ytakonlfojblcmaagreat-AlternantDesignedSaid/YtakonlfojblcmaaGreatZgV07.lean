/- Goppa descriptions that are refused: goppa, GoppaDesigned. The reference's Designed. AlternantDesigned: the law's walk. -/
import Derived.Test.YtakonlfojblcmaaGreatZgGrsQ
import Derived.Test.YtakonlfojblcmaaGreatZgApR
import Derived.Test.YtakonlfojblcmaaGreatZgGopD
import Derived.Test.YtakonlfojblcmaaGreatZgGcd5
import Derived.Test.YtakonlfojblcmaaGreatZgAltS
namespace Go.Proofs.YtakonlfojblcmaaGreat
section
open Go.RowKit Cw
open Cw.CField (inv)
attribute [local go_sem] Oper.semAt_some

theorem Gop_any (P M Q N : Int) (ml nl poly pts : List Int) (A B A1 A2 : Option Addr) (c b c1 c2 : Nat) (w : World) (hP : I64 P) (hM : I64 M) (hQ : I64 Q) (hN : I64 N) (hl : ml.length ≤ maxLen) (hn : nl.length ≤ maxLen) (hr : Rd w w.heap.size A ml) (hrB : Rd w w.heap.size B nl) (hr1 : Rd w w.heap.size A1 poly) (hr2 : Rd w w.heap.size A2 pts) (hl1 : poly.length ≤ 70000) (hl2 : pts.length ≤ maxLen) :
  ∃ E, (∀ W, Below w.heap.size w W → Calls Tryz.prog 29 #[.agg #[.int .i64 P, .int .i64 M, .slice A ml.length c, .int .i64 Q, .int .i64 N, .slice B nl.length b, .slice A1 poly.length c1, .slice A2 pts.length c2]] W fun e w' => e = .returned (.int .i64 E) ∧ Below W.heap.size W w') ∧
   (E ≠ 0 → ∀ W, Below w.heap.size w W → Calls Tryz.prog 102 #[.agg #[.int .i64 P, .int .i64 M, .slice A ml.length c, .int .i64 Q, .int .i64 N, .slice B nl.length b, .slice A1 poly.length c1, .slice A2 pts.length c2]] W fun e w' => e = .returned (.tuple #[.agg #[.int .i64 0, .int .i64 0, .slice none 0 0, .pointer none, .slice none 0 0, .slice none 0 0, .int .i64 0], .slice none 0 0, .int .i64 E]) ∧ Below W.heap.size W w') ∧
   (E = 0 → ∃ S D : Desc, P = S.p ∧ M = S.m ∧ ml = modL S ∧ Q = D.p ∧ N = D.m ∧ nl = modL D ∧ Good S.p S.m (modL S) ∧ Good D.p D.m (modL D) ∧ gopD S D poly pts = 0) := by
 by_cases hg1 : Good P M ml
 ·by_cases hg2 : Good Q N nl
  ·obtain ⟨S, rfl, rfl, rfl, hS⟩ := id hg1;obtain ⟨D, rfl, rfl, rfl, hD⟩ := id hg2;obtain ⟨F, rfl⟩ := good_FD hg1;refine ⟨gopD F.toDesc D poly pts, fun W hb => ?_, fun hE W hb => ?_, fun h => ⟨F.toDesc, D, rfl, rfl, rfl, rfl, rfl, rfl, hg1, hg2, h⟩⟩
   ·rw [modL_length, modL_length];exact GopChk_D F.toDesc D poly pts A B A1 A2 c b c1 c2 W ((hr.below hb).more hb.size) ((hrB.below hb).more hb.size) hg1 hg2 ((hr1.below hb).more hb.size) ((hr2.below hb).more hb.size) hl1 hl2
   ·rw [modL_length, modL_length];refine (goppa_D F D poly pts A B A1 A2 c b c1 c2 W ((hr.below hb).more hb.size) ((hrB.below hb).more hb.size) hg1 hg2 ((hr1.below hb).more hb.size) ((hr2.below hb).more hb.size) (by unfold maxLen; omega) hl2).mono ?_;rintro e w' ⟨hb', ⟨-, h⟩ | ⟨h, -⟩⟩
    ·exact ⟨h, hb'⟩
    ·exact absurd h hE
  ·obtain ⟨S, rfl, rfl, rfl, hS⟩ := id hg1;refine ⟨1, fun W hb => ?_, fun _ W hb => ?_, fun h => by cases h⟩
   ·rw [modL_length];exact GopChk_bad2 S Q N nl poly pts A B A1 A2 c b c1 c2 W ((hr.below hb).more hb.size) hg1 hQ hN hn ((hrB.below hb).more hb.size) hg2
   ·rw [modL_length];exact goppa_bad2 S Q N nl poly pts A B A1 A2 c b c1 c2 W ((hr.below hb).more hb.size) hg1 hQ hN hn ((hrB.below hb).more hb.size) hg2
 ·exact ⟨1, fun W hb => GopChk_bad1 P M ml Q N nl poly pts A B A1 A2 c b c1 c2 W hP hM hl ((hr.below hb).more hb.size) hg1, fun _ W hb => goppa_bad1 P M ml Q N nl poly pts A B A1 A2 c b c1 c2 W hP hM hl ((hr.below hb).more hb.size) hg1, fun h => by cases h⟩
set_option maxRecDepth 100000 in
set_option maxHeartbeats 4000000 in
theorem aGopDes_bad (P M Q N : Int) (ml nl poly pts : List Int) (A B A1 A2 : Option Addr) (c b c1 c2 : Nat) (w : World) (E : Int) (hE : E ≠ 0) (hG : ∀ W, Below w.heap.size w W → Calls Tryz.prog 102 #[.agg #[.int .i64 P, .int .i64 M, .slice A ml.length c, .int .i64 Q, .int .i64 N, .slice B nl.length b, .slice A1 poly.length c1, .slice A2 pts.length c2]] W fun e w' => e = .returned (.tuple #[.agg #[.int .i64 0, .int .i64 0, .slice none 0 0, .pointer none, .slice none 0 0, .slice none 0 0, .int .i64 0], .slice none 0 0, .int .i64 E]) ∧ Below W.heap.size W w') :
  Calls Tryz.prog 35 #[.agg #[.int .i64 P, .int .i64 M, .slice A ml.length c, .int .i64 Q, .int .i64 N, .slice B nl.length b, .slice A1 poly.length c1, .slice A2 pts.length c2]] w fun e w' => e = .returned (.tuple #[.int .i64 0, .int .i64 E]) ∧ Below w.heap.size w w' := by
 obtain ⟨s, hs⟩ : ∃ s, s = w.heap.size := ⟨_, rfl⟩;obtain ⟨Z, hZ⟩ : ∃ Z, Z = w.alloc (.cells #[.int .i64 P, .int .i64 M, .slice A ml.length c, .int .i64 Q, .int .i64 N, .slice B nl.length b, .slice A1 poly.length c1, .slice A2 pts.length c2] 44) := ⟨_, rfl⟩;have hB : Below w.heap.size w Z := by rw [hZ]; exact (Below.refl _ _).alloc (Nat.le_refl _) _
 have hbG : Hid (Bxs Z s [.int .i64 P, .int .i64 M, .slice A ml.length c, .int .i64 Q, .int .i64 N, .slice B nl.length b, .slice A1 poly.length c1, .slice A2 pts.length c2]) := by rw [hZ, hs]; exact Bxs.new w _ _
 have hq := Lib.hid (hG Z hB);have hEb : (E != 0) = true := by rw [bne_iff_ne]; exact hE
 replace hZ := Lib.hid hZ;replace hE := Lib.hid hE;clear hG;go_enter Tryz.func35, Tryz.ntmps35;obtain ⟨a0, a1, a2, a3, a4, a5, a6, a7⟩ := hbG.out.c8;go_wp2_with (fail);rw [← hZ.out];simp only [← hs];have hsw : w.heap.size ≤ s := Nat.le_of_eq hs.symm;replace hs := Lib.hid hs;go_wp2_with (fail);(with_reducible refine hq.out.mono ?_);rintro e w1 ⟨rfl, hb1⟩;clear hq a0 a1 a2 a3 a4 a5 a6 a7;have hB1 := hB.trans (hb1.mono hB.size);have hbY : Below w.heap.size w (w1.alloc (.cells #[.int .i64 0, .int .i64 0, .slice none 0 0, .pointer none, .slice none 0 0, .slice none 0 0, .int .i64 0] 135)) := hB1.trans (((Below.refl _ w1).alloc (Nat.le_refl _) _).mono hB1.size);replace hbY := Lib.hid hbY;go_wp2_with (fail);go_ret2;exact ⟨rfl, hbY.out⟩
theorem q_two {S : Desc} : S.q = 2 ↔ S.p = 2 ∧ S.m = 1 := by
 have h1 := S.p2;have h2 := S.m1
 show S.p ^ S.m = 2 ↔ _
 constructor
 ·intro h;obtain ⟨k, hk⟩ : ∃ k, S.m = k + 1 := ⟨S.m - 1, by omega⟩
  cases k with
  | zero => rw [hk, Nat.pow_succ, Nat.pow_zero, Nat.one_mul] at h; exact ⟨h, hk⟩
  | succ k =>
   have h3 : 2 ^ (k + 2) ≤ S.p ^ (k + 2) := Nat.pow_le_pow_left h1 _;have h4 : 0 < 2 ^ k := Nat.pow_pos (by decide);rw [hk] at h;rw [h, Nat.pow_succ, Nat.pow_succ] at h3;omega
 ·rintro ⟨h, e⟩;rw [h, e]
set_option maxRecDepth 100000 in
set_option maxHeartbeats 4000000 in
theorem Des19_any (S F : FD) (poly pts : List Int) (A B A1 A2 : Option Addr) (c b c1 c2 : Nat) (w : World) (hrB : Rd w w.heap.size B (modL F.toDesc)) (hr1 : Rd w w.heap.size A1 poly) (hl1 : 1 ≤ poly.length) (hl : poly.length ≤ 1000) :
  Calls Tryz.prog 36 #[.agg #[.int .i64 S.p, .int .i64 S.m, .slice A S.mod.length c, .int .i64 F.p, .int .i64 F.m, .slice B F.mod.length b, .slice A1 poly.length c1, .slice A2 pts.length c2]] w fun e w' => e = .returned (.int .i64 (desN S.toDesc F.toDesc poly)) ∧ Below w.heap.size w w' := by
 have hp1 := S.p256; have hp2 := S.m8; have hq3 := S.q256;obtain ⟨s, hs⟩ : ∃ s, s = w.heap.size := ⟨_, rfl⟩;obtain ⟨Z, hZ⟩ : ∃ Z, Z = w.alloc (.cells #[.int .i64 S.p, .int .i64 S.m, .slice A S.mod.length c, .int .i64 F.p, .int .i64 F.m, .slice B F.mod.length b, .slice A1 poly.length c1, .slice A2 pts.length c2] 44) := ⟨_, rfl⟩;have hB : Below w.heap.size w Z := by rw [hZ]; exact (Below.refl _ _).alloc (Nat.le_refl _) _
 have hbG : Hid (Bxs Z s [.int .i64 S.p, .int .i64 S.m, .slice A S.mod.length c, .int .i64 F.p, .int .i64 F.m, .slice B F.mod.length b, .slice A1 poly.length c1, .slice A2 pts.length c2]) := by rw [hZ, hs]; exact Bxs.new w _ _
 have hZs : s < Z.heap.size := by rw [hZ, hs]; simp
 have hO := Order_any S.p S.m A S.mod.length c Z (by omega) (by omega);rw [qOf_D] at hO;replace hO := Lib.hid hO;have hSq := fun W h1 h2 => Lib.hid (Sqf19_any F poly B A1 b c1 W h1 h2 hl)
 have hrBZ := (hrB.below hB).more hB.size;have hr1Z := (hr1.below hB).more hB.size;have hw1 : IntKind.i64.wrap ((poly.length : Int) - 1) = ((poly.length - 1 : Nat) : Int) := by rw [IntWalk.i64_in _ (by omega)]; omega
 obtain ⟨t, ht⟩ : ∃ t, t = poly.length - 1 := ⟨_, rfl⟩;have ht64 : t ≤ 1000 := by omega
 rw [← ht] at hw1;have w2a : IntKind.i64.wrap (2 * (t : Int)) = 2 * (t : Int) := by rw [IntWalk.i64_in _ (by omega)]
 have w2b : IntKind.i64.wrap (2 * (t : Int) + 1) = 2 * (t : Int) + 1 := by rw [IntWalk.i64_in _ (by omega)]
 have w2c : IntKind.i64.wrap ((t : Int) + 1) = (t : Int) + 1 := by rw [IntWalk.i64_in _ (by omega)]
 have hE2 := Lib.hid (fun h => @desN_yes S.toDesc F.toDesc poly h);have hE1 := Lib.hid (fun h => @desN_no S.toDesc F.toDesc poly h);rw [← ht] at hE2 hE1;have hco : Hid (sqfB F poly = true ↔ Cop (plI F.toDesc poly) (plI F.toDesc (derI F.toDesc poly))) := by rw [Hid, derI_pl]; exact sqfB_iff
 have hqq := Lib.hid (@q_two S.toDesc);obtain ⟨q, hq⟩ : ∃ q, q = S.toDesc.q := ⟨_, rfl⟩;rw [← hq] at hO hqq hq3;replace ht := Lib.hid ht;replace hZ := Lib.hid hZ;replace hq := Lib.hid hq;clear hrB hr1 hp1 hp2;go_enter Tryz.func36, Tryz.ntmps36;obtain ⟨a0, a1, a2, a3, a4, a5, a6, a7⟩ := hbG.out.c8;by_cases h2 : q = 2
 ·have h2b : ((q : Int) == 2) = true := by rw [beq_iff_eq]; omega
  have h22 := Lib.hid (hqq.out.1 h2);replace h2 := Lib.hid h2;go_wp2_with (fail);rw [← hZ.out];simp only [← hs];have hsw : w.heap.size ≤ s := Nat.le_of_eq hs.symm;replace hs := Lib.hid hs;go_wp2_with (fail);(with_reducible refine hO.out.mono ?_);rintro e w1 ⟨rfl, hb1⟩;clear hO a0 a1 a2 a3 a4 a5 a6 a7;have hB1 := hB.trans (hb1.mono hB.size);have hq2 := hSq w1 ((hrBZ.below hb1).more hb1.size) ((hr1Z.below hb1).more hb1.size);obtain ⟨a0, a1, a2, a3, a4, a5, a6, a7⟩ := (hbG.out.keep hb1 hZs).c8;by_cases hsq : sqfB F poly = true
  ·have hEv : Hid (desN S.toDesc F.toDesc poly = 2 * (t : Int) + 1) := hE2.out ⟨h22.out, hco.out.1 hsq⟩;rw [hsq] at hq2;go_wp2_with (fail);(with_reducible refine hq2.out.mono ?_);rintro e w2 ⟨rfl, hb2⟩;go_wp2_with (fail);go_ret;exact ⟨by rw [hEv.out]; rfl, hB1.trans (hb2.mono hB1.size)⟩
  ·have hEv : Hid (desN S.toDesc F.toDesc poly = (t : Int) + 1) := hE1.out fun h => hsq (hco.out.2 h.2)
   have hsf : sqfB F poly = false := by cases h : sqfB F poly with | true => exact absurd h hsq | false => rfl
   rw [hsf] at hq2;go_wp2_with (fail);(with_reducible refine hq2.out.mono ?_);rintro e w2 ⟨rfl, hb2⟩;go_wp2_with (fail);go_ret;exact ⟨by rw [hEv.out]; rfl, hB1.trans (hb2.mono hB1.size)⟩
 ·have h2b : ((q : Int) == 2) = false := by rw [beq_eq_false_iff_ne]; omega
  have hEv : Hid (desN S.toDesc F.toDesc poly = (t : Int) + 1) := hE1.out fun h => h2 (hqq.out.2 h.1)
  replace h2 := Lib.hid h2;go_wp2_with (fail);rw [← hZ.out];simp only [← hs];have hsw : w.heap.size ≤ s := Nat.le_of_eq hs.symm;replace hs := Lib.hid hs;go_wp2_with (fail);(with_reducible refine hO.out.mono ?_);rintro e w1 ⟨rfl, hb1⟩;go_wp2_with (fail);go_ret;exact ⟨by rw [hEv.out]; rfl, hB.trans (hb1.mono hB.size)⟩
theorem gop_weight {S F : FD} {r : R F.toDesc} {poly pts : List Int} {u : Nat → R S.toDesc} (hz : gopD S.toDesc F.toDesc poly pts = 0) (h0 : muV S F r = 0) (hu : ∃ j, j < pts.length ∧ u j ≠ 0) (hm : Meets S F r pts.length (poly.length - 1) (gopM F poly pts) u) : desN S.toDesc F.toDesc poly ≤ (wgt (rowL S.toDesc pts.length u) : Int) := by
 obtain ⟨n, h1, h2, h3, hinj⟩ := gop_facts hz;obtain ⟨hfit, -⟩ := gopD_zero hz;have hp := (fitB_iff.1 hfit).1;have hn : poly.length - 1 = n := by omega
 rw [hn] at hm;by_cases hs : SqfP S.toDesc F.toDesc poly
 ·rw [desN_yes hs, hn];have hc := hs.2;rw [derI_pl] at hc;have := meets_weight (x := fun j => eli F.toDesc (pts[j]?.getD 0)) (y := fun j => inv (pevI F.toDesc poly (eli F.toDesc (pts[j]?.getD 0)) * pevI F.toDesc poly (eli F.toDesc (pts[j]?.getD 0)))) hinj (fun j hj => inv_ne_zero (mul_ne_zero (h3 j hj) (h3 j hj))) hp h0 (fun i j _ _ => rfl) hu (meets_square (q_two.2 hs.1) hp h1 h2 hc h3 hm);omega
 ·rw [desN_no hs, hn];have := meets_weight (x := fun j => eli F.toDesc (pts[j]?.getD 0)) (y := fun j => inv (pevI F.toDesc poly (eli F.toDesc (pts[j]?.getD 0)))) hinj (fun j hj => inv_ne_zero (h3 j hj)) hp h0 (fun i j _ _ => mul_c _ _) hu hm;omega
end
section
open Go.RowKit Cw
attribute [local go_sem] Oper.semAt_some

set_option maxRecDepth 100000 in
set_option maxHeartbeats 16000000 in
theorem altDesgL (P M Q N : Int) (ml nl poly pts : List Int) (A B C D : Option Addr) (c b k e1 : Nat) (wl : List Int) (Aw : Option Addr) (cw : Nat) (w : World) (hP : I64 P) (hM : I64 M) (hQ : I64 Q) (hN : I64 N) (hl : ml.length ≤ maxLen) (hn : nl.length ≤ maxLen) (hk : poly.length ≤ k ∧ k ≤ maxLen) (he : pts.length ≤ e1 ∧ e1 ≤ maxLen) (_hi : ∀ x ∈ poly, I64 x) (_hj : ∀ x ∈ pts, I64 x)
  (hr : Rd w w.heap.size A ml) (hrB : Rd w w.heap.size B nl) (hr1 : Rd w w.heap.size C poly) (hr2 : Rd w w.heap.size D pts) (hcw : wl.length ≤ cw) (hcm : cw ≤ maxLen) (hrw : Rd w w.heap.size Aw wl) :
  Calls Tryz.prog 8 #[.agg #[.int .i64 P, .int .i64 M, .slice A ml.length c, .int .i64 Q, .int .i64 N, .slice B nl.length b, .slice C poly.length k, .slice D pts.length e1], .slice Aw wl.length cw] w fun e w' => e = .returned (.bool true) ∧ Below w.heap.size w w' := by
 have hpl : poly.length ≤ maxLen := Nat.le_trans hk.1 hk.2;have hql : pts.length ≤ maxLen := Nat.le_trans he.1 he.2;have hwm : wl.length ≤ maxLen := Nat.le_trans hcw hcm;obtain ⟨s, hs⟩ : ∃ s, s = w.heap.size := ⟨_, rfl⟩;obtain ⟨Z, hZ⟩ : ∃ Z, Z = w.alloc (.cells #[.int .i64 P, .int .i64 M, .slice A ml.length c, .int .i64 Q, .int .i64 N, .slice B nl.length b, .slice C poly.length k, .slice D pts.length e1] 44) := ⟨_, rfl⟩;have hB : Below w.heap.size w Z := by rw [hZ]; exact (Below.refl _ _).alloc (Nat.le_refl _) _
 have hbG : Hid (Bxs Z s [.int .i64 P, .int .i64 M, .slice A ml.length c, .int .i64 Q, .int .i64 N, .slice B nl.length b, .slice C poly.length k, .slice D pts.length e1]) := by rw [hZ, hs]; exact Bxs.new w _ _
 have hZs : s < Z.heap.size := by rw [hZ, hs]; simp
 have hq := Lib.hid (alive19_any Z);have hfe := fun W => Lib.hid (few19_any D pts.length e1 W)
 replace hZ := Lib.hid hZ;go_enter Tryz.func8, Tryz.ntmps8;go_wp2_with (fail);rw [← hZ.out];simp only [← hs];have hsw : w.heap.size ≤ s := Nat.le_of_eq hs.symm;replace hs := Lib.hid hs;(with_reducible refine hq.out.mono ?_);rintro e w1 ⟨rfl, hb1⟩;clear hq;have hB1 := hB.trans (hb1.mono hB.size);have hs1 : s < w1.heap.size := Nat.lt_of_lt_of_le hZs hb1.size;have hq1 := hfe w1;clear hfe;obtain ⟨d0, d1, d2, d3, d4, d5, d6, d7⟩ := (hbG.out.keep hb1 hZs).c8;by_cases h20 : (pts.length : Int) ≤ 20;rotate_left
 ·rw [decide_eq_false h20] at hq1;replace h20 := Lib.hid h20;replace hq1 := Lib.hid hq1.out;go_wp2_with (fail);(with_reducible refine hq1.out.mono ?_);rintro e w2 ⟨rfl, rfl⟩;go_wp2_with (fail);go_ret;exact ⟨rfl, hB1⟩
 rw [decide_eq_true h20] at hq1;replace h20 := Lib.hid h20;replace hq1 := Lib.hid hq1.out;by_cases h_poly : (40 : Int) < (poly.length : Int)
 ·have h_b : decide ((40 : Int) < (poly.length : Int)) = true := decide_eq_true h_poly;replace h_poly := Lib.hid h_poly;go_wp2_with (fail);(with_reducible refine hq1.out.mono ?_);rintro e w2 ⟨rfl, rfl⟩;go_wp2_with (fail);go_ret;exact ⟨rfl, hB1⟩
 have hb_poly : decide ((40 : Int) < (poly.length : Int)) = false := decide_eq_false h_poly;have hle_poly : poly.length ≤ 40 := by omega
 replace h_poly := Lib.hid h_poly;obtain ⟨E, hCk, hGp, hE⟩ := Gop_any P M Q N ml nl poly pts A B C D c b k e1 w1 hP hM hQ hN hl hn ((hr.below hB1).more hB1.size) ((hrB.below hB1).more hB1.size) ((hr1.below hB1).more hB1.size) ((hr2.below hB1).more hB1.size) (by omega) hql;replace hCk := fun W hb => Lib.hid (hCk W hb)
 replace hE := Lib.hid hE;go_wp2_with (fail);(with_reducible refine hq1.out.mono ?_);rintro e w2 ⟨rfl, rfl⟩;clear hq1 d0 d1 d2 d3 d4 d5 d6 d7;by_cases h0 : E = 0;rotate_left
 ·have h0b : (E != 0) = true := by rw [bne_iff_ne]; exact h0
  have hEE : (E == E) = true := beq_self_eq_true E;have hq := Lib.hid (aGopDes_bad P M Q N ml nl poly pts A B C D c b k e1 w1 E h0 (hGp h0));replace h0 := Lib.hid h0;obtain ⟨d0, d1, d2, d3, d4, d5, d6, d7⟩ := (hbG.out.keep hb1 hZs).c8;go_wp2_with (fail);(with_reducible refine hq.out.mono ?_);rintro e w3 ⟨rfl, hb3⟩;clear hq d0 d1 d2 d3 d4 d5 d6 d7;have hbz3 := hb1.trans (hb3.mono hb1.size);have hB3 := hB.trans (hbz3.mono hB.size);have hq := hCk w3 hb3;obtain ⟨d0, d1, d2, d3, d4, d5, d6, d7⟩ := (hbG.out.keep hbz3 hZs).c8;go_wp2_with (fail);(with_reducible refine hq.out.mono ?_);rintro e w4 ⟨rfl, hb4⟩;have hfin := Lib.hid (hB3.trans (hb4.mono hB3.size));go_wp2_with (fail);go_ret;exact ⟨ret_bool (by simp), hfin.out⟩
 have hCk0 := fun W hb => hCk W hb
 rw [h0] at hCk0;clear hCk hGp;obtain ⟨S', F', rfl, rfl, rfl, rfl, rfl, rfl, hgS, hgF, hz⟩ := hE.out h0;obtain ⟨S, rfl⟩ := good_FD hgS;replace h0 := Lib.hid h0;have hzH := Lib.hid hz;obtain ⟨-, ⟨hn1, hn64⟩, -, -, -, hpl2, -⟩ := gopD_zero hz;have hq := aGopDes_ok S F' poly pts A B C D c b k e1 w1 ((hr.below hB1).more hB1.size) ((hrB.below hB1).more hB1.size) hgS hgF ((hr1.below hB1).more hB1.size) ((hr2.below hB1).more hB1.size) hz;rw [← modL_length S.toDesc, ← modL_length F'] at hq;obtain ⟨dv, hdv⟩ : ∃ dv, dv = desN S.toDesc F' poly := ⟨_, rfl⟩;rw [← hdv] at hq;replace hdv := Lib.hid hdv;replace hq := Lib.hid hq;have hddn : (dv != dv) = false := by rw [bne_eq_false_iff_eq]
 obtain ⟨d0, d1, d2, d3, d4, d5, d6, d7⟩ := (hbG.out.keep hb1 hZs).c8;go_wp2_with (fail);(with_reducible refine hq.out.mono ?_);rintro e w3 ⟨rfl, hb3⟩;clear hq d0 d1 d2 d3 d4 d5 d6 d7;have hbz3 := hb1.trans (hb3.mono hb1.size);have hB3 := hB.trans (hbz3.mono hB.size);have hq := hCk0 w3 hb3;obtain ⟨d0, d1, d2, d3, d4, d5, d6, d7⟩ := (hbG.out.keep hbz3 hZs).c8;go_wp2_with (fail);(with_reducible refine hq.out.mono ?_);rintro e w4 ⟨rfl, hb4⟩;clear hq hCk0 d0 d1 d2 d3 d4 d5 d6 d7;have hbz4 := hbz3.trans (hb4.mono hbz3.size);have hB4 := hB.trans (hbz4.mono hB.size);have hq := aGopCode_ok S F' poly pts A B C D c b k e1 w4 ((hr.below hB4).more hB4.size) ((hrB.below hB4).more hB4.size) hgS hgF ((hr1.below hB4).more hB4.size) ((hr2.below hB4).more hB4.size) hz;rw [← modL_length S.toDesc, ← modL_length F'] at hq;replace hq := Lib.hid hq;obtain ⟨d0, d1, d2, d3, d4, d5, d6, d7⟩ := (hbG.out.keep hbz4 hZs).c8;go_wp2_with (fail);(with_reducible refine hq.out.mono ?_);rintro e w5 ⟨F, rt, rfl, hrt, k5, C5, A5, c5, R5, rfl, hvc, hsp, -, hr5, -, hru5, hb5⟩;clear hq d0 d1 d2 d3 d4 d5 d6 d7;have hbz5 := hbz4.trans (hb5.mono hbz4.size);obtain ⟨Y, hY⟩ : ∃ Y, Y = w5.alloc (.cells #[.int .i64 S.p, .int .i64 S.m, .slice A5 S.mod.length c5, .int .i64 pts.length, .slice R5 k5 k5] 27) := ⟨_, rfl⟩;have hbY : Below w5.heap.size w5 Y := by rw [hY]; exact (Below.refl _ _).alloc (Nat.le_refl _) _
 have hbzY := hbz5.trans (hbY.mono hbz5.size);have hBY := hB.trans (hbzY.mono hB.size);obtain ⟨pc, hpc⟩ : ∃ pc, pc = w5.heap.size := ⟨_, rfl⟩;have hYs : pc < Y.heap.size := by rw [hY, hpc]; simp
 have hbC : Hid (Bxs Y pc [.int .i64 S.p, .int .i64 S.m, .slice A5 S.mod.length c5, .int .i64 pts.length, .slice R5 k5 k5]) := by rw [hY, hpc]; exact Bxs.new w5 _ _
 have hr5Y := (hr5.below hbY).more hbY.size;have hruY := (hru5.rdm.below hbY).more hbY.size;have hk5 : k5 ≤ pts.length := hvc.le;have hCh := fun W x1 x2 => Lib.hid (Check12_ok S hgS k5 pts.length C5 hvc.can A5 R5 c5 k5 W x1 x2 (by omega) hn1 hn64)
 clear hr5 hru5;have hq := Des19_any S F poly pts A B C D c b k e1 Y ((hrB.below hBY).more hBY.size) ((hr1.below hBY).more hBY.size) (by omega) (by omega);rw [← modL_length S.toDesc, ← modL_length F.toDesc, ← hdv.out] at hq;replace hq := Lib.hid hq;obtain ⟨d0, d1, d2, d3, d4, d5, d6, d7⟩ := (hbG.out.keep hbzY hZs).c8;rw [hY] at d0 d1 d2 d3 d4 d5 d6 d7;replace hY := Lib.hid hY;go_wp2_with (fail);rw [← hY.out];simp only [← hpc];replace hpc := Lib.hid hpc;(with_reducible refine hq.out.mono ?_);rintro e w6 ⟨rfl, hb6⟩;clear hq d0 d1 d2 d3 d4 d5 d6 d7;have hbz6 := hbzY.trans (hb6.mono hbzY.size);have hB6 := hB.trans (hbz6.mono hB.size);have hq := hCh w6 ((hr5Y.below hb6).more hb6.size) ((hruY.below hb6).more hb6.size);obtain ⟨e0, e1', e2, e3, e4⟩ := (hbC.out.keep hb6 hYs).c5;go_wp2_with (fail);(with_reducible refine hq.out.mono ?_);rintro e w7 ⟨rfl, hb7⟩;clear hq e0 e1' e2 e3 e4;have hbY7 := hb6.trans (hb7.mono hb6.size);have hbz7 := hbzY.trans (hbY7.mono hbzY.size);have hB7 := hB.trans (hbz7.mono hB.size);have hWg := Lib.hid (Weight18_any wl Aw cw w7 ((hrw.below hB7).more hB7.size) hwm);by_cases hw0 : wgt wl = 0
 ·have hw0b : ((wgt wl : Int) == 0) = true := by rw [beq_iff_eq]; omega
  replace hw0 := Lib.hid hw0;go_wp2_with (fail);(with_reducible refine hWg.out.mono ?_);rintro e w8 ⟨rfl, rfl⟩;go_wp2_with (fail);go_ret;exact ⟨rfl, hB7⟩
 have hw0b : ((wgt wl : Int) == 0) = false := by rw [beq_eq_false_iff_ne]; omega
 have hwg0 := Lib.hid hw0;replace hw0 := Lib.hid hw0;have hq := elems19_any S.toDesc wl k5 A Aw c cw w7 ((hrw.below hB7).more hB7.size) hwm;rw [← modL_length S.toDesc] at hq;obtain ⟨e0, e1', e2, e3, e4⟩ := (hbC.out.keep hbY7 hYs).c5;obtain ⟨d0, d1, d2, d3, d4, d5, d6, d7⟩ := (hbG.out.keep hbz7 hZs).c8;by_cases he0 : elErr S.toDesc wl k5 4 = 0;rotate_left
 ·have heb : (elErr S.toDesc wl k5 4 == 0) = false := by rw [beq_eq_false_iff_ne]; exact he0
  rw [heb] at hq;replace heb := Lib.hid heb;replace he0 := Lib.hid he0;replace hq := Lib.hid hq;go_wp2_with (fail);(with_reducible refine hWg.out.mono ?_);rintro e w8 ⟨rfl, rfl⟩;go_wp2_with (fail);(with_reducible refine hq.out.mono ?_);rintro e w9 ⟨rfl, hb9⟩;go_wp2_with (fail);go_ret;exact ⟨rfl, hB7.trans (hb9.mono hB7.size)⟩
 have heb : (elErr S.toDesc wl k5 4 == 0) = true := by rw [beq_iff_eq]; exact he0
 obtain ⟨hwk, hwe⟩ := elErr4_zero he0;have hwk2 : wl.length = k5 := by omega
 have hwl : wl = rowL S.toDesc k5 fun j => eli S.toDesc (wl[j]?.getD 0) := by rw [← hwk2]; exact list_rowL hwe
 obtain ⟨gm, hgm⟩ : ∃ gm : Nat → R S.toDesc, gm = fun j => eli S.toDesc (wl[j]?.getD 0) := ⟨_, rfl⟩
 rw [← hgm] at hwl;have hnz : ∃ i, i < k5 ∧ gm i ≠ 0 := by
  refine Classical.byContradiction fun hno => hwg0.out ?_
  refine (wgt_zero_iff wl).2 fun x hx => ?_
  rw [hwl] at hx;obtain ⟨i, hi, rfl⟩ := List.mem_map.1 hx;have h9 : gm i = 0 := Classical.byContradiction fun h9 => hno ⟨i, List.mem_range.1 hi, h9⟩
  rw [h9, ci_zero]
 have hu := enc_ne hvc.can hnz;have hme : Meets S F (rel F.toDesc rt) pts.length (poly.length - 1) (gopM F poly pts) (cmb k5 gm C5) := (hsp _).1 ⟨gm, fun _ _ => rfl⟩;have hwt : desN S.toDesc F.toDesc poly ≤ (wgt (rowL S.toDesc pts.length (cmb k5 gm C5)) : Int) := gop_weight hzH.out hrt.2.1 hu hme;rw [← hdv.out] at hwt;rw [heb, hwk2] at hq;replace heb := Lib.hid heb;replace he0 := Lib.hid he0;replace hwk := Lib.hid hwk;have hwk3 := Lib.hid hwk2;replace hq := Lib.hid hq;have hEn := fun W x1 x2 x3 => Lib.hid (Encode12_ok S hgS k5 pts.length C5 hvc.can A5 R5 c5 k5 gm Aw cw W x1 x2 (by omega) hn1 hn64 x3)
 replace hwl := Lib.hid hwl;rw [hwk2] at hWg ⊢;clear hwk2 hnz hu hme;replace hgm := Lib.hid hgm;go_wp2_with (fail);(with_reducible refine hWg.out.mono ?_);rintro e w8 ⟨rfl, rfl⟩;go_wp2_with (fail);(with_reducible refine hq.out.mono ?_);rintro e w9 ⟨rfl, hb9⟩;clear hq hWg d0 d1 d2 d3 d4 d5 d6 d7 e0 e1' e2 e3 e4;have hbY9 := hbY7.trans (hb9.mono hbY7.size);have hbz9 := hbzY.trans (hbY9.mono hbzY.size);have hB9 := hB.trans (hbz9.mono hB.size);have hq := hEn w9 ((hr5Y.below hbY9).more hbY9.size) ((hruY.below hbY9).more hbY9.size) (by rw [← hwl.out]; exact (hrw.below hB9).more hB9.size);obtain ⟨e0, e1', e2, e3, e4⟩ := (hbC.out.keep hbY9 hYs).c5;go_wp2_with (fail);(with_reducible refine hq.out.mono ?_);rintro e wa ⟨A9, c9, rfl, hr9, -, hba⟩;clear hq e0 e1' e2 e3 e4;have hBa := hB9.trans (hba.mono hB9.size);have hq := Weight18_any (rowL S.toDesc pts.length (cmb k5 gm C5)) A9 c9 wa hr9 (by rw [rowL_length]; exact hql);rw [rowL_length] at hq;replace hq := Lib.hid hq;obtain ⟨wt, hwtE⟩ : ∃ wt, wt = wgt (rowL S.toDesc pts.length (cmb k5 gm C5)) := ⟨_, rfl⟩;rw [← hwtE] at hq hwt;have t1 : decide (dv ≤ (wt : Int)) = true := decide_eq_true hwt;replace hwtE := Lib.hid hwtE;clear hsp hvc hwt;go_wp2_with (fail);(with_reducible refine hq.out.mono ?_);rintro e wb ⟨rfl, rfl⟩;go_wp2_with (fail);go_ret;exact ⟨rfl, hBa⟩
end
end Go.Proofs.YtakonlfojblcmaaGreat
