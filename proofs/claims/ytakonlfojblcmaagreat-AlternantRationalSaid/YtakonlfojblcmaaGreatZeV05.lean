/- Goppa descriptions over what is no field; the program's Check. Layer 19: the example of the chapter, and the program's Check. Plain: the weights of words that meet the checks of an alternant code, of a Goppa code. No Go here. Layer 19: the reference's check of any Goppa description; codes of multiples of a Goppa polynomial. Layer 5 of the program: FromRoots. AlternantDimension: the law's walk. AlternantNested: the law's walk. Plain: the numerator of the rational function of a word, as the reference computes it. No Go here. -/
import Derived.BigQuiet
import Derived.Lib.AppendZerosOnto
import Derived.Test.YtakonlfojblcmaaGreatZeGA
import Derived.Test.YtakonlfojblcmaaGreatZeLA
import Derived.Test.YtakonlfojblcmaaGreatZeMH
import Derived.Test.YtakonlfojblcmaaGreatZeCodC
import Derived.Test.YtakonlfojblcmaaGreatZeKnlP
import Derived.Test.YtakonlfojblcmaaGreatZeGpoA
import Derived.Test.YtakonlfojblcmaaGreatZePol5m
import Derived.Test.YtakonlfojblcmaaGreatZeGopW
import Derived.Test.YtakonlfojblcmaaGreatZeApR
import Derived.Test.YtakonlfojblcmaaGreatZeKnl
import Derived.Test.YtakonlfojblcmaaGreatZeAlvP
import Derived.Test.YtakonlfojblcmaaGreatZeDivW
import Derived.Test.YtakonlfojblcmaaGreatZeGopD
import Derived.Test.YtakonlfojblcmaaGreatZeGopR
import Derived.Test.YtakonlfojblcmaaGreatZeInsW
import Derived.Test.YtakonlfojblcmaaGreatZeGopRow
import Derived.Test.YtakonlfojblcmaaGreatZeOnce
import Derived.Test.YtakonlfojblcmaaGreatZeDiv5
namespace Go.Proofs.YtakonlfojblcmaaGreat
section
open Go.RowKit Cw
attribute [local go_sem] Oper.semAt_some

set_option maxRecDepth 100000 in
set_option maxHeartbeats 2000000 in
theorem GopChk_bad1 (P M : Int) (ml : List Int) (Q N : Int) (nl poly pts : List Int) (A B A1 A2 : Option Addr) (c b c1 c2 : Nat) (w : World) (hP : I64 P) (hM : I64 M) (hl : ml.length ≤ maxLen) (hr : Rd w w.heap.size A ml) (hb : ¬ Good P M ml) :
  Calls Tryz.prog 29 #[.agg #[.int .i64 P, .int .i64 M, .slice A ml.length c, .int .i64 Q, .int .i64 N, .slice B nl.length b, .slice A1 poly.length c1, .slice A2 pts.length c2]] w fun e w' => e = .returned (.int .i64 1) ∧ Below w.heap.size w w' := by
 have hCk := fun W h => Check_any P M ml A c W hP.2 hM.2 hl h
 rw [chk_no hb] at hCk;obtain ⟨s, hs⟩ : ∃ s, s = w.heap.size := ⟨_, rfl⟩;obtain ⟨Z, hZ⟩ : ∃ Z, Z = w.alloc (.cells #[.int .i64 P, .int .i64 M, .slice A ml.length c, .int .i64 Q, .int .i64 N, .slice B nl.length b, .slice A1 poly.length c1, .slice A2 pts.length c2] 44) := ⟨_, rfl⟩;have hB : Below w.heap.size w Z := by rw [hZ]; exact (Below.refl _ _).alloc (Nat.le_refl _) _
 have hG : Hid (Bxs Z s (#[.int .i64 P, .int .i64 M, .slice A ml.length c, .int .i64 Q, .int .i64 N, .slice B nl.length b, .slice A1 poly.length c1, .slice A2 pts.length c2]).toList) := by rw [hZ, hs]; exact Lib.hid (Bxs.new w _ _)
 have hsZ : s < Z.heap.size := by rw [hZ, hs]; simp
 have hq := Lib.hid (hCk Z ((hr.below hB).more hB.size));replace hZ := Lib.hid hZ;clear hCk hP hM hl hb;go_enter Tryz.func29, Tryz.ntmps29;obtain ⟨a0, a1, a2, a3, a4, a5, a6, a7⟩ := Bxs.c8 hG.out;go_wp2_with (fail);rw [← hZ.out];simp only [← hs];have hsw : w.heap.size ≤ s := Nat.le_of_eq hs.symm;replace hs := Lib.hid hs;go_wp2_with (fail);(with_reducible refine hq.out.mono ?_);rintro e w1 ⟨rfl, hb⟩;clear hq a0 a1 a2 a3 a4 a5 a6 a7;replace hB := hB.trans (hb.mono hB.size);replace hG := Lib.hid (hG.out.keep hb hsZ);replace hsZ := Nat.lt_of_lt_of_le hsZ hb.size;clear hb;go_wp2_with (fail);go_ret;exact ⟨rfl, hB⟩

set_option maxRecDepth 100000 in
set_option maxHeartbeats 2000000 in
theorem GopChk_bad2 (S : Desc) (Q N : Int) (nl poly pts : List Int) (A B A1 A2 : Option Addr) (c b c1 c2 : Nat) (w : World) (hr : Rd w w.heap.size A (modL S)) (hS : Good S.p S.m (modL S)) (hQ : I64 Q) (hN : I64 N) (hl : nl.length ≤ maxLen) (hrB : Rd w w.heap.size B nl) (hb : ¬ Good Q N nl) :
  Calls Tryz.prog 29 #[.agg #[.int .i64 S.p, .int .i64 S.m, .slice A S.mod.length c, .int .i64 Q, .int .i64 N, .slice B nl.length b, .slice A1 poly.length c1, .slice A2 pts.length c2]] w fun e w' => e = .returned (.int .i64 1) ∧ Below w.heap.size w w' := by
 have hp1 := S.p256; have hp2 := S.m8;have hmlS : (modL S).length ≤ maxLen := by rw [modL_length]; have := S.hlen; rw [this]; unfold maxLen; split <;> omega
 have hCk := fun W h => Check_any S.p S.m (modL S) A c W (by omega) (by omega) hmlS h
 rw [chk_yes hS, modL_length] at hCk;have hCk2 := fun W h => Check_any Q N nl B b W hQ.2 hN.2 hl h
 rw [chk_no hb] at hCk2;replace hCk2 := fun W h => Lib.hid (hCk2 W h)
 obtain ⟨s, hs⟩ : ∃ s, s = w.heap.size := ⟨_, rfl⟩;obtain ⟨Z, hZ⟩ : ∃ Z, Z = w.alloc (.cells #[.int .i64 S.p, .int .i64 S.m, .slice A S.mod.length c, .int .i64 Q, .int .i64 N, .slice B nl.length b, .slice A1 poly.length c1, .slice A2 pts.length c2] 44) := ⟨_, rfl⟩;have hB : Below w.heap.size w Z := by rw [hZ]; exact (Below.refl _ _).alloc (Nat.le_refl _) _
 have hG : Hid (Bxs Z s (#[.int .i64 S.p, .int .i64 S.m, .slice A S.mod.length c, .int .i64 Q, .int .i64 N, .slice B nl.length b, .slice A1 poly.length c1, .slice A2 pts.length c2]).toList) := by rw [hZ, hs]; exact Lib.hid (Bxs.new w _ _)
 have hsZ : s < Z.heap.size := by rw [hZ, hs]; simp
 have hq := Lib.hid (hCk Z ((hr.below hB).more hB.size));replace hZ := Lib.hid hZ;clear hCk hQ hN hl hb hS hmlS;go_enter Tryz.func29, Tryz.ntmps29;obtain ⟨a0, a1, a2, a3, a4, a5, a6, a7⟩ := Bxs.c8 hG.out;go_wp2_with (fail);rw [← hZ.out];simp only [← hs];have hsw : w.heap.size ≤ s := Nat.le_of_eq hs.symm;replace hs := Lib.hid hs;go_wp2_with (fail);(with_reducible refine hq.out.mono ?_);rintro e w1 ⟨rfl, hb⟩;clear hq a0 a1 a2 a3 a4 a5 a6 a7;replace hB := hB.trans (hb.mono hB.size);replace hG := Lib.hid (hG.out.keep hb hsZ);replace hsZ := Nat.lt_of_lt_of_le hsZ hb.size;clear hb;have hq := hCk2 w1 ((hrB.below hB).more hB.size);obtain ⟨a0, a1, a2, a3, a4, a5, a6, a7⟩ := Bxs.c8 hG.out;go_wp2_with (fail);(with_reducible refine hq.out.mono ?_);rintro e w2 ⟨rfl, hb⟩;clear hq a0 a1 a2 a3 a4 a5 a6 a7;replace hB := hB.trans (hb.mono hB.size);clear hb;go_wp2_with (fail);go_ret;exact ⟨rfl, hB⟩

end
section
open Go.RowKit Cw
attribute [local go_sem] Oper.semAt_some

theorem rd_lit19 (W : World) (l : List Int) : Rd (W.alloc (.cells (l.map (Value.int .i64)).toArray 3)) (W.heap.size + 1) (some ⟨W.heap.size, 0, none⟩) l := by
 have h := rd_new W l;rw [World.size_alloc] at h;exact h
theorem gop19 : gopD D2 E2_3 [1, 1, 1] pts19 = 0 := by decide +kernel
theorem sqf19 : SqfP D2 E2_3 [1, 1, 1] := ⟨⟨rfl, rfl⟩, by
 obtain ⟨F, hF⟩ := good_FD good8;have h := cop19 hF;rw [hF] at h;exact h⟩
theorem des19 : desN D2 E2_3 [1, 1, 1] = 5 := by rw [desN_yes sqf19]; decide
set_option maxRecDepth 100000 in
set_option maxHeartbeats 8000000 in
theorem alive19_any (w : World) : Calls Tryz.prog 27 #[] w fun e w' => e = .returned (.bool true) ∧ Below w.heap.size w w' := by
 obtain ⟨S, hS⟩ := good_FD good2;have e1 : (S.p : Int) = 2 := by rw [hS]; rfl
 have e2 : (S.m : Int) = 1 := by rw [hS]; rfl
 have e3 : S.mod.length = 0 := by rw [hS]; rfl
 have hgS : Good S.p S.m (modL S.toDesc) := by rw [hS]; exact good2
 have hzS : gopD S.toDesc E2_3 [1, 1, 1] pts19 = 0 := by rw [hS]; exact gop19
 obtain ⟨s, hs⟩ : ∃ s, s = w.heap.size := ⟨_, rfl⟩;obtain ⟨Z1, hZ1⟩ : ∃ Z1, Z1 = w.alloc (.cells #[.int .i64 1, .int .i64 1, .int .i64 0] 3) := ⟨_, rfl⟩;obtain ⟨Z2, hZ2⟩ : ∃ Z2, Z2 = Z1.alloc (.cells #[.int .i64 1, .int .i64 1, .int .i64 1] 3) := ⟨_, rfl⟩;obtain ⟨Z3, hZ3⟩ : ∃ Z3, Z3 = Z2.alloc (.cells #[.int .i64 0, .int .i64 1, .int .i64 2, .int .i64 3, .int .i64 4, .int .i64 5, .int .i64 6, .int .i64 7] 3) := ⟨_, rfl⟩;obtain ⟨Z4, hZ4⟩ : ∃ Z4, Z4 = Z3.alloc (.cells #[.int .i64 2, .int .i64 1, .slice none 0 0, .int .i64 2, .int .i64 3, .slice (some ⟨s, 0, none⟩) 3 3, .slice (some ⟨s + 1, 0, none⟩) 3 3, .slice (some ⟨s + 1 + 1, 0, none⟩) 8 8] 44) := ⟨_, rfl⟩;have z1 : Z1.heap.size = s + 1 := by rw [hZ1, hs]; simp
 have z2 : Z2.heap.size = s + 2 := by rw [hZ2]; simp [z1]
 have z3 : Z3.heap.size = s + 3 := by rw [hZ3]; simp [z2]
 have z4 : Z4.heap.size = s + 4 := by rw [hZ4]; simp [z3]
 have b1 : Below s w Z1 := by rw [hZ1]; exact (Below.refl _ _).alloc (Nat.le_of_eq hs) _
 have b2 : Below (s + 1) Z1 Z2 := by rw [hZ2]; exact (Below.refl _ _).alloc (Nat.le_of_eq z1.symm) _
 have b3 : Below (s + 2) Z2 Z3 := by rw [hZ3]; exact (Below.refl _ _).alloc (Nat.le_of_eq z2.symm) _
 have b4 : Below (s + 3) Z3 Z4 := by rw [hZ4]; exact (Below.refl _ _).alloc (Nat.le_of_eq z3.symm) _
 have r1 : Rd Z1 (s + 1) (some ⟨s, 0, none⟩) [1, 1, 0] := by have h := rd_lit19 w [1, 1, 0]; rw [hZ1, hs]; exact h
 have r2 : Rd Z2 (s + 2) (some ⟨s + 1, 0, none⟩) [1, 1, 1] := by have h := rd_lit19 Z1 [1, 1, 1]; rw [z1] at h; rw [hZ2]; exact h
 have r3 : Rd Z3 (s + 3) (some ⟨s + 1 + 1, 0, none⟩) pts19 := by have h := rd_lit19 Z2 pts19; rw [z2] at h; rw [hZ3]; exact h
 have c34 := b4;have c24 := b3.trans (c34.mono (show s + 2 ≤ s + 3 by omega));have c14 := b2.trans (c24.mono (show s + 1 ≤ s + 2 by omega));have hB : Below s w Z4 := b1.trans (c14.mono (show s ≤ s + 1 by omega));have hmod : modL E2_3 = [1, 1, 0] := by decide
 have rr1 : Rd Z4 Z4.heap.size (some ⟨s, 0, none⟩) [1, 1, 0] := by rw [z4]; exact (r1.below c14).more (by omega)
 have rr2 : Rd Z4 Z4.heap.size (some ⟨s + 1, 0, none⟩) [1, 1, 1] := by rw [z4]; exact (r2.below c24).more (by omega)
 have rr3 : Rd Z4 Z4.heap.size (some ⟨s + 1 + 1, 0, none⟩) pts19 := by rw [z4]; exact (r3.below c34).more (by omega)
 have hbG : Hid (Bxs Z4 (s + 1 + 1 + 1) [.int .i64 2, .int .i64 1, .slice none 0 0, .int .i64 2, .int .i64 3, .slice (some ⟨s, 0, none⟩) 3 3, .slice (some ⟨s + 1, 0, none⟩) 3 3, .slice (some ⟨s + 1 + 1, 0, none⟩) 8 8]) := by have h := Bxs.new Z3 [.int .i64 2, .int .i64 1, .slice none 0 0, .int .i64 2, .int .i64 3, .slice (some ⟨s, 0, none⟩) 3 3, .slice (some ⟨s + 1, 0, none⟩) 3 3, .slice (some ⟨s + 1 + 1, 0, none⟩) 8 8] 44; rw [z3] at h; rw [hZ4]; exact h
 have hC : ∀ W, Below Z4.heap.size Z4 W → Calls Tryz.prog 31 #[.agg #[.int .i64 2, .int .i64 1, .slice none 0 0, .int .i64 2, .int .i64 3, .slice (some ⟨s, 0, none⟩) 3 3, .slice (some ⟨s + 1, 0, none⟩) 3 3, .slice (some ⟨s + 1 + 1, 0, none⟩) 8 8]] W (GCPost S E2_3 [1, 1, 1] pts19 W) := fun W hb => by
  have h := aGopCode_ok S E2_3 [1, 1, 1] pts19 none (some ⟨s, 0, none⟩) (some ⟨s + 1, 0, none⟩) (some ⟨s + 1 + 1, 0, none⟩) 0 3 3 8 W (by rw [hS]; exact Rd.nil) (by rw [hmod]; exact (rr1.below hb).more hb.size) hgS good8 ((rr2.below hb).more hb.size) ((rr3.below hb).more hb.size) hzS;rw [e1, e2, e3] at h;exact h
 have hDz : ∀ W, Below Z4.heap.size Z4 W → Calls Tryz.prog 35 #[.agg #[.int .i64 2, .int .i64 1, .slice none 0 0, .int .i64 2, .int .i64 3, .slice (some ⟨s, 0, none⟩) 3 3, .slice (some ⟨s + 1, 0, none⟩) 3 3, .slice (some ⟨s + 1 + 1, 0, none⟩) 8 8]] W fun e w' => e = .returned (.tuple #[.int .i64 5, .int .i64 0]) ∧ Below W.heap.size W w' := fun W hb => by
  have h := aGopDes_ok S E2_3 [1, 1, 1] pts19 none (some ⟨s, 0, none⟩) (some ⟨s + 1, 0, none⟩) (some ⟨s + 1 + 1, 0, none⟩) 0 3 3 8 W (by rw [hS]; exact Rd.nil) (by rw [hmod]; exact (rr1.below hb).more hb.size) hgS good8 ((rr2.below hb).more hb.size) ((rr3.below hb).more hb.size) hzS;rw [e1, e2, e3, hS, des19] at h;exact h
 have hq := Lib.hid (hC Z4 (Below.refl _ _));replace hDz := fun W hb => Lib.hid (hDz W hb)
 clear hC rr1 rr2 rr3 r1 r2 r3 c34 c24 c14 b1 b2 b3 b4 z1 z2 z3;replace e1 := Lib.hid e1;replace e2 := Lib.hid e2;replace e3 := Lib.hid e3;go_enter Tryz.func27, Tryz.ntmps27;obtain ⟨a0, a1, a2, a3, a4, a5, a6, a7⟩ := hbG.out.c8;go_wp2_with (fail);rw [← hZ1, ← hZ2, ← hZ3];simp only [← hs];rw [← hZ4];have hsw : w.heap.size = s := hs.symm;replace hs := Lib.hid hs;replace hZ1 := Lib.hid hZ1;replace hZ2 := Lib.hid hZ2;replace hZ3 := Lib.hid hZ3;replace hZ4 := Lib.hid hZ4;replace hsw := Lib.hid hsw;(with_reducible refine hq.out.mono ?_);rintro e w1 ⟨F, rt, hF, -, k, C, A3, c3, Al, rfl, hvc, hsp, -, -, -, -, hb1⟩;obtain rfl : k = 2 := alv_k hS hF hvc.can (fun u => hsp u);clear hq hvc hsp a0 a1 a2 a3 a4 a5 a6 a7;rw [show pts19.length = 8 from rfl, e1.out, e2.out, e3.out];obtain ⟨Y, hY⟩ : ∃ Y, Y = w1.alloc (.cells #[.int .i64 2, .int .i64 1, .slice A3 0 c3, .int .i64 8, .slice Al 2 2] 27) := ⟨_, rfl⟩;have hbY : Below w1.heap.size w1 Y := by rw [hY]; exact (Below.refl _ _).alloc (Nat.le_refl _) _
 have hbZY := hb1.trans (hbY.mono hb1.size);have hq2 := hDz Y hbZY;have hbC : Hid (Bxs Y w1.heap.size [.int .i64 2, .int .i64 1, .slice A3 0 c3, .int .i64 8, .slice Al 2 2]) := by rw [hY]; exact Bxs.new w1 _ _
 have hYl : w1.heap.size < Y.heap.size := by rw [hY]; simp
 obtain ⟨a0, a1, a2, a3, a4, a5, a6, a7⟩ := (hbG.out.keep hbZY (by have := z4; omega)).c8;rw [hY] at a0 a1 a2 a3 a4 a5 a6 a7;obtain ⟨pc, hpc⟩ : ∃ pc, pc = w1.heap.size := ⟨_, rfl⟩;rw [← hpc] at hbC hYl;replace hY := Lib.hid hY;go_wp2_with (fail);rw [← hY.out];simp only [← hpc];replace hpc := Lib.hid hpc;(with_reducible refine hq2.out.mono ?_);rintro e w2 ⟨rfl, hb2⟩;obtain ⟨c0, c1, c2, c3', c4⟩ := (hbC.out.keep hb2 hYl).c5;clear a0 a1 a2 a3 a4 a5 a6 a7 hq2 hDz;have hfin : Hid (Below w.heap.size w w2) := by
  rw [Hid, hsw.out];exact hB.trans ((hbZY.trans (hb2.mono hbZY.size)).mono (by have := z4; omega))
 go_wp2_with (fail);go_ret;exact ⟨rfl, hfin.out⟩

end
section
open Go.RowKit Cw
open Cw.CField (inv)
section
variable {S F : FD} {r : R F.toDesc} {N t k : Nat} {h : Nat → Nat → R F.toDesc} {u : Nat → R S.toDesc}
end
section
variable {S F : FD} {r : R F.toDesc} {N t : Nat} {poly pts : List Int} {u : Nat → R S.toDesc}
theorem gop_gsum (F : FD) (poly pts : List Int) (N : Nat) (v : Nat → R F.toDesc) (i : Nat) : gsum (plI F.toDesc poly) ((List.range N).map fun j => (eli F.toDesc (pts[j]?.getD 0), v j)) i = rsum N fun j => gopM F poly pts i j * v j := by
 unfold gsum;rw [lsum_map, lsum_range];refine rsum_congr fun j _ => ?_
 dsimp only;rw [plI_ev];unfold gopM
 ac_rfl
end
end
section
open Go.RowKit Cw

theorem GopChk_any (P M Q N : Int) (ml nl poly pts : List Int) (A B A1 A2 : Option Addr) (c b c1 c2 : Nat) (w : World) (hP : I64 P) (hM : I64 M) (hQ : I64 Q) (hN : I64 N) (hl : ml.length ≤ maxLen) (hn : nl.length ≤ maxLen) (hr : Rd w w.heap.size A ml) (hrB : Rd w w.heap.size B nl) (hr1 : Rd w w.heap.size A1 poly) (hr2 : Rd w w.heap.size A2 pts) (hl1 : poly.length ≤ 70000) (hl2 : pts.length ≤ maxLen) :
  ∃ E, (Calls Tryz.prog 29 #[.agg #[.int .i64 P, .int .i64 M, .slice A ml.length c, .int .i64 Q, .int .i64 N, .slice B nl.length b, .slice A1 poly.length c1, .slice A2 pts.length c2]] w fun e w' => e = .returned (.int .i64 E) ∧ Below w.heap.size w w') ∧
   (E = 0 → ∃ S D : Desc, P = S.p ∧ M = S.m ∧ ml = modL S ∧ Q = D.p ∧ N = D.m ∧ nl = modL D ∧ Good S.p S.m (modL S) ∧ Good D.p D.m (modL D) ∧ gopD S D poly pts = 0) := by
 by_cases hg1 : Good P M ml
 ·by_cases hg2 : Good Q N nl
  ·obtain ⟨S, rfl, rfl, rfl, hS⟩ := id hg1;obtain ⟨D, rfl, rfl, rfl, hD⟩ := id hg2;refine ⟨gopD S D poly pts, ?_, fun h => ⟨S, D, rfl, rfl, rfl, rfl, rfl, rfl, hg1, hg2, h⟩⟩;rw [modL_length, modL_length];exact GopChk_D S D poly pts A B A1 A2 c b c1 c2 w hr hrB hg1 hg2 hr1 hr2 hl1 hl2
  ·obtain ⟨S, rfl, rfl, rfl, hS⟩ := id hg1;refine ⟨1, ?_, fun h => by cases h⟩;rw [modL_length];exact GopChk_bad2 S Q N nl poly pts A B A1 A2 c b c1 c2 w hr hg1 hQ hN hn hrB hg2
 ·exact ⟨1, GopChk_bad1 P M ml Q N nl poly pts A B A1 A2 c b c1 c2 w hP hM hl hr hg1, fun h => by cases h⟩
section
variable {S F : FD} {r : R F.toDesc} {poly pts : List Int} {u : Nat → R S.toDesc}
theorem gop_facts {S' : Desc} (hz : gopD S' F.toDesc poly pts = 0) : ∃ n, poly.length = n + 1 ∧ cfR F.toDesc poly n ≠ 0 ∧ (∀ j, j < pts.length → pevI F.toDesc poly (eli F.toDesc (pts[j]?.getD 0)) ≠ 0) ∧ ∀ i j, i < pts.length → j < pts.length → eli F.toDesc (pts[i]?.getD 0) = eli F.toDesc (pts[j]?.getD 0) → i = j := by
 obtain ⟨-, -, hp1, hp2, htw, hl2, -, htop, hroot⟩ := gopD_zero hz;obtain ⟨n, hn⟩ : ∃ n, poly.length = n + 1 := ⟨poly.length - 1, by omega⟩;refine ⟨n, hn, ?_, fun j hj e => hroot ?_, pts_inj hp1 htw⟩
 ·rw [hn, Nat.add_sub_cancel] at htop;exact eli_ne (elB_iff.1 hp2 n (by omega)) htop
 ·have h9 : (valL F.toDesc poly pts)[j]?.getD 0 = 0 := by unfold valL; rw [lst_get _ hj, e, ci_zero]
  rw [← h9];exact mem_get (by unfold valL; rw [lst_length]; exact hj)
theorem meets_rat {n N : Nat} (hl : poly.length = n + 1) (h0 : cfR F.toDesc poly n ≠ 0) (hz : ∀ j, j < N → pevI F.toDesc poly (eli F.toDesc (pts[j]?.getD 0)) ≠ 0) :
  Meets S F r N n (gopM F poly pts) u ↔ (plI F.toDesc poly).dvd (nP ((List.range N).map fun j => (eli F.toDesc (pts[j]?.getD 0), phi S F r (u j)))) := by
 rw [rat_iff (g := plI F.toDesc poly) (n := n) (fun t ht => cfR_out _ (by omega)) h0 _ fun a ha => by
  obtain ⟨j, hj, rfl⟩ := List.mem_map.1 ha;rw [plI_ev];exact hz j (List.mem_range.1 hj)]
 constructor
 ·intro h i hi; rw [gop_gsum]; exact h i hi
 ·intro h i hi; have := h i hi; rw [gop_gsum] at this; exact this
theorem meets_nested {p2 : List Int} {n m N : Nat} (hl : poly.length = n + 1) (h0 : cfR F.toDesc poly n ≠ 0) (hz : ∀ j, j < N → pevI F.toDesc poly (eli F.toDesc (pts[j]?.getD 0)) ≠ 0) (hl2 : p2.length = m + 1) (h02 : cfR F.toDesc p2 m ≠ 0) (hz2 : ∀ j, j < N → pevI F.toDesc p2 (eli F.toDesc (pts[j]?.getD 0)) ≠ 0)
  (hd : (plI F.toDesc poly).dvd (plI F.toDesc p2)) (h : Meets S F r N m (gopM F p2 pts) u) : Meets S F r N n (gopM F poly pts) u :=
 (meets_rat hl h0 hz).2 (hd.trans ((meets_rat hl2 h02 hz2).1 h))
end
theorem meets_two {S F F2 : FD} (h : F2.toDesc = F.toDesc) {rt rt2 : Nat} (h1 : IsRt S F rt) (h2 : IsRt S F2 rt2) {N t : Nat} {p pts : List Int} {u : Nat → R S.toDesc} (hm : Meets S F2 (rel F2.toDesc rt2) N t (gopM F2 p pts) u) : Meets S F (rel F.toDesc rt) N t (gopM F p pts) u := by
 obtain ⟨D, g, a, b, c⟩ := F;obtain ⟨D2, g2, a2, b2, c2⟩ := F2;have h' : D2 = D := h;subst h';have e : rt2 = rt := IsRt.uniq (S := S) (F := ⟨D2, g2, a2, b2, c2⟩) h2 h1;subst e;exact hm
theorem plI_mulI (D : Desc) (p q : List Int) : plI D (mulI D p q) = plI D p * plI D q := Pl.ext' fun t => congrFun (cfR_mulI D p q) t
end
section
open Go.RowKit Cw
attribute [local go_sem] Oper.semAt_some

theorem canI_len (D : Desc) {p : List Int} {n : Nat} (hl : p.length = n + 1) (h : cfR D p n ≠ 0) : (canI D p).length = n + 1 := by
 unfold canI;rw [canL_length, hl, cdeg_no (f := cfI D p) (n := n) (fun e => h (ci_eq_zero.1 e))]
end
section
open Go.RowKit Cw
attribute [local go_sem] Oper.semAt_some

set_option maxHeartbeats 1000000 in
theorem few19_any (A : Option Addr) (n c : Nat) (w : World) : Calls Tryz.prog 28 #[.slice A n c] w fun e w' => e = .returned (.bool (decide ((n : Int) ≤ 20))) ∧ w = w' := by
 go_enter Tryz.func28, Tryz.ntmps28;go_wp2_with (fail);go_ret;exact ⟨rfl, rfl⟩
end
section
open Go.RowKit Cw
attribute [local go_sem] Oper.semAt_some

set_option maxRecDepth 100000 in
set_option maxHeartbeats 16000000 in
theorem altNestL (P M Q N : Int) (ml nl poly pts : List Int) (A B C D : Option Addr) (c b k e1 : Nat) (wl : List Int) (Aw : Option Addr) (cw : Nat) (w : World) (hP : I64 P) (hM : I64 M) (hQ : I64 Q) (hN : I64 N) (hl : ml.length ≤ maxLen) (hn : nl.length ≤ maxLen) (hk : poly.length ≤ k ∧ k ≤ maxLen) (he : pts.length ≤ e1 ∧ e1 ≤ maxLen) (_hi : ∀ x ∈ poly, I64 x) (_hj : ∀ x ∈ pts, I64 x)
  (hr : Rd w w.heap.size A ml) (hrB : Rd w w.heap.size B nl) (hr1 : Rd w w.heap.size C poly) (hr2 : Rd w w.heap.size D pts) (hcw : wl.length ≤ cw) (hcm : cw ≤ maxLen) (hrw : Rd w w.heap.size Aw wl) :
  Calls Tryz.prog 9 #[.agg #[.int .i64 P, .int .i64 M, .slice A ml.length c, .int .i64 Q, .int .i64 N, .slice B nl.length b, .slice C poly.length k, .slice D pts.length e1], .slice Aw wl.length cw] w fun e w' => e = .returned (.bool true) ∧ Below w.heap.size w w' := by
 have hpl : poly.length ≤ maxLen := Nat.le_trans hk.1 hk.2;have hql : pts.length ≤ maxLen := Nat.le_trans he.1 he.2;have hwm : wl.length ≤ maxLen := Nat.le_trans hcw hcm;obtain ⟨s, hs⟩ : ∃ s, s = w.heap.size := ⟨_, rfl⟩;obtain ⟨Z, hZ⟩ : ∃ Z, Z = w.alloc (.cells #[.int .i64 P, .int .i64 M, .slice A ml.length c, .int .i64 Q, .int .i64 N, .slice B nl.length b, .slice C poly.length k, .slice D pts.length e1] 44) := ⟨_, rfl⟩;have hB : Below w.heap.size w Z := by rw [hZ]; exact (Below.refl _ _).alloc (Nat.le_refl _) _
 have hbG : Hid (Bxs Z s [.int .i64 P, .int .i64 M, .slice A ml.length c, .int .i64 Q, .int .i64 N, .slice B nl.length b, .slice C poly.length k, .slice D pts.length e1]) := by rw [hZ, hs]; exact Bxs.new w _ _
 have hZs : s < Z.heap.size := by rw [hZ, hs]; simp
 have hq := Lib.hid (alive19_any Z);have hfe := fun W => Lib.hid (few19_any D pts.length e1 W)
 replace hZ := Lib.hid hZ;go_enter Tryz.func9, Tryz.ntmps9;go_wp2_with (fail);rw [← hZ.out];simp only [← hs];have hsw : w.heap.size ≤ s := Nat.le_of_eq hs.symm;replace hs := Lib.hid hs;(with_reducible refine hq.out.mono ?_);rintro e w1 ⟨rfl, hb1⟩;clear hq;have hB1 := hB.trans (hb1.mono hB.size);have hs1 : s < w1.heap.size := Nat.lt_of_lt_of_le hZs hb1.size;have hq1 := hfe w1;clear hfe;obtain ⟨d0, d1, d2, d3, d4, d5, d6, d7⟩ := (hbG.out.keep hb1 hZs).c8;by_cases h20 : (pts.length : Int) ≤ 20;rotate_left
 ·rw [decide_eq_false h20] at hq1;replace h20 := Lib.hid h20;replace hq1 := Lib.hid hq1.out;go_wp2_with (fail);(with_reducible refine hq1.out.mono ?_);rintro e w2 ⟨rfl, rfl⟩;go_wp2_with (fail);go_ret;exact ⟨rfl, hB1⟩
 rw [decide_eq_true h20] at hq1;replace h20 := Lib.hid h20;replace hq1 := Lib.hid hq1.out;by_cases h_poly : (20 : Int) < (poly.length : Int)
 ·have h_b : decide ((20 : Int) < (poly.length : Int)) = true := decide_eq_true h_poly;replace h_poly := Lib.hid h_poly;go_wp2_with (fail);(with_reducible refine hq1.out.mono ?_);rintro e w2 ⟨rfl, rfl⟩;go_wp2_with (fail);go_ret;exact ⟨rfl, hB1⟩
 have hb_poly : decide ((20 : Int) < (poly.length : Int)) = false := decide_eq_false h_poly;have hle_poly : poly.length ≤ 20 := by omega
 replace h_poly := Lib.hid h_poly;by_cases h_wl : (20 : Int) < (wl.length : Int)
 ·have h_b : decide ((20 : Int) < (wl.length : Int)) = true := decide_eq_true h_wl;replace h_wl := Lib.hid h_wl;go_wp2_with (fail);(with_reducible refine hq1.out.mono ?_);rintro e w2 ⟨rfl, rfl⟩;go_wp2_with (fail);go_ret;exact ⟨rfl, hB1⟩
 have hb_wl : decide ((20 : Int) < (wl.length : Int)) = false := decide_eq_false h_wl;have hle_wl : wl.length ≤ 20 := by omega
 replace h_wl := Lib.hid h_wl;obtain ⟨E, hC, hE⟩ := GopChk_any P M Q N ml nl poly pts A B C D c b k e1 w1 hP hM hQ hN hl hn ((hr.below hB1).more hB1.size) ((hrB.below hB1).more hB1.size) ((hr1.below hB1).more hB1.size) ((hr2.below hB1).more hB1.size) (by omega) hql;replace hC := Lib.hid hC;replace hE := Lib.hid hE;go_wp2_with (fail);(with_reducible refine hq1.out.mono ?_);rintro e w2 ⟨rfl, rfl⟩;go_wp2_with (fail);(with_reducible refine hC.out.mono ?_);rintro e w2 ⟨rfl, hb2⟩;clear hC hq1 d0 d1 d2 d3 d4 d5 d6 d7;have hbz2 := hb1.trans (hb2.mono hb1.size);have hB2 := hB.trans (hbz2.mono hB.size);by_cases h0 : E = 0;rotate_left
 ·have h0b : (E != 0) = true := by rw [bne_iff_ne]; exact h0
  replace h0 := Lib.hid h0;go_wp2_with (fail);go_ret;exact ⟨rfl, hB2⟩
 have h0b : (E != 0) = false := by rw [bne_eq_false_iff_eq]; exact h0
 obtain ⟨S', F', rfl, rfl, rfl, rfl, rfl, rfl, hgS, hgF, hz⟩ := hE.out h0;obtain ⟨S, rfl⟩ := good_FD hgS;replace h0 := Lib.hid h0;have hzH := Lib.hid hz;have hml2 := mulI_le F' poly wl;obtain ⟨p2, hp2⟩ : ∃ p2, p2 = mulI F' poly wl := ⟨_, rfl⟩;rw [← hp2] at hml2;obtain ⟨Y, hY⟩ : ∃ Y, Y = w2.alloc (.cells #[.int .i64 S.p, .int .i64 S.m, .slice A (modL S.toDesc).length c, .int .i64 F'.p, .int .i64 F'.m, .slice B (modL F').length b, .slice C poly.length k, .slice D pts.length e1] 44) := ⟨_, rfl⟩;have hbY : Below w2.heap.size w2 Y := by rw [hY]; exact (Below.refl _ _).alloc (Nat.le_refl _) _
 have hbzY := hbz2.trans (hbY.mono hbz2.size);have hBY := hB.trans (hbzY.mono hB.size);obtain ⟨pq, hpq⟩ : ∃ pq, pq = w2.heap.size := ⟨_, rfl⟩;have hYs : pq < Y.heap.size := by rw [hY, hpq]; simp
 have hbQ : Hid (Bxs Y pq [.int .i64 S.p, .int .i64 S.m, .slice A (modL S.toDesc).length c, .int .i64 F'.p, .int .i64 F'.m, .slice B (modL F').length b, .slice C poly.length k, .slice D pts.length e1]) := by rw [hY, hpq]; exact Bxs.new w2 _ _
 have hq := Mul5_any F' poly wl B C Aw b k cw Y ((hrB.below hBY).more hBY.size) ((hr1.below hBY).more hBY.size) ((hrw.below hBY).more hBY.size) (by omega) (by omega);rw [← hp2, ← modL_length F'] at hq;unfold Gives at hq;replace hq := Lib.hid hq;obtain ⟨d0, d1, d2, d3, d4, d5, d6, d7⟩ := (hbG.out.keep hbz2 hZs).c8;obtain ⟨x0, x1, x2, x3, x4, x5, x6, x7⟩ := (hbG.out.keep hbzY hZs).c8;rw [hY] at x0 x1 x2 x3 x4 x5 x6 x7;replace hY := Lib.hid hY;replace hp2 := Lib.hid hp2;go_wp2_with (fail);rw [← hY.out];simp only [← hpq];replace hpq := Lib.hid hpq;(with_reducible refine hq.out.mono ?_);rintro e w3 ⟨gq, rfl, hgq, hibq, hb3⟩;clear hq d0 d1 d2 d3 d4 d5 d6 d7 x0 x1 x2 x3 x4 x5 x6 x7;have hb3Y := hbQ.out.keep hb3 hYs;have hbQ4 := hb3Y.set_ (j := 6) (by simp) (.slice (some ⟨gq, 0, none⟩) p2.length p2.length);obtain ⟨y0, y1, y2, y3, y4, y5, y6, y7⟩ := hb3Y.c8;obtain ⟨f0, f1, f2, f3, f4, f5, f6, f7⟩ := hb3Y.f8;obtain ⟨V, hV⟩ : ∃ V, V = w3.setCell ⟨pq, 6, none⟩ (.slice (some ⟨gq, 0, none⟩) p2.length p2.length) := ⟨_, rfl⟩;have hbzV : Below Z.heap.size Z V := by rw [hV]; exact (hbzY.trans (hb3.mono hbzY.size)).setCell (p := ⟨pq, 6, none⟩) (by rw [hpq.out]; exact hbz2.size) _
 have hBV := hB.trans (hbzV.mono hB.size);have hbQV : Hid (Bxs V pq [.int .i64 S.p, .int .i64 S.m, .slice A (modL S.toDesc).length c, .int .i64 F'.p, .int .i64 F'.m, .slice B (modL F').length b, .slice (some ⟨gq, 0, none⟩) p2.length p2.length, .slice D pts.length e1]) := by rw [hV]; exact hbQ4
 have hrqV : Rd V V.heap.size (some ⟨gq, 0, none⟩) p2 := by
  have h9 := (hibq.far (p := ⟨pq, 6, none⟩) (show gq ≠ pq by omega) (.slice (some ⟨gq, 0, none⟩) p2.length p2.length)).rd;rw [hV]; exact h9
 have hVs : pq < V.heap.size := by have := hibq.lt; rw [hV]; simp only [World.setCell, Array.size_modify]; omega
 obtain ⟨E2, hC2, hE2⟩ := GopChk_any S.p S.m F'.p F'.m (modL S.toDesc) (modL F') p2 pts A B (some ⟨gq, 0, none⟩) D c b p2.length e1 V hP hM hQ hN hl hn ((hr.below hBV).more hBV.size) ((hrB.below hBV).more hBV.size) hrqV ((hr2.below hBV).more hBV.size) (by omega) hql;replace hC2 := Lib.hid hC2;replace hE2 := Lib.hid hE2;obtain ⟨x0, x1, x2, x3, x4, x5, x6, x7⟩ := hbQV.out.c8;rw [hV] at x0 x1 x2 x3 x4 x5 x6 x7;replace hV := Lib.hid hV;clear hbQ4;go_wp2_with (fail);rw [← hV.out];(with_reducible refine hC2.out.mono ?_);rintro e w4 ⟨rfl, hb4⟩;clear hC2 x0 x1 x2 x3 x4 x5 x6 x7 y0 y1 y2 y3 y4 y5 y6 y7 f0 f1 f2 f3 f4 f5 f6 f7 hb3Y;have hbz4 := hbzV.trans (hb4.mono hbzV.size);have hB4 := hB.trans (hbz4.mono hB.size);by_cases h02 : E2 = 0;rotate_left
 ·have h02b : (E2 != 0) = true := by rw [bne_iff_ne]; exact h02
  replace h02 := Lib.hid h02;go_wp2_with (fail);go_ret;exact ⟨rfl, hB4⟩
 have h02b : (E2 != 0) = false := by rw [bne_eq_false_iff_eq]; exact h02
 have hz2 : gopD S.toDesc F' p2 pts = 0 := by
  obtain ⟨S2, D2', e1', e2', e3', e4', e5', e6', -, -, h9⟩ := hE2.out h02;have g1 : S2 = S.toDesc := desc_ext (by omega) (by omega) (modL_inj e3'.symm);have g2 : D2' = F' := desc_ext (by omega) (by omega) (modL_inj e6'.symm);rw [g1, g2] at h9; exact h9
 obtain ⟨-, ⟨hn1, hn64⟩, -⟩ := gopD_zero hz;replace h02 := Lib.hid h02;have hq := aGopCode_ok S F' poly pts A B C D c b k e1 w4 ((hr.below hB4).more hB4.size) ((hrB.below hB4).more hB4.size) hgS hgF ((hr1.below hB4).more hB4.size) ((hr2.below hB4).more hB4.size) hz;rw [← modL_length S.toDesc, ← modL_length F'] at hq;replace hq := Lib.hid hq;obtain ⟨d0, d1, d2, d3, d4, d5, d6, d7⟩ := (hbG.out.keep hbz4 hZs).c8;go_wp2_with (fail);(with_reducible refine hq.out.mono ?_);rintro e w5 ⟨F, rt, rfl, hrt, k5, C5, A5, c5, R5, rfl, hvc5, hsp5, -, hr5, -, hru5, hb5⟩;clear hq d0 d1 d2 d3 d4 d5 d6 d7;have hbz5 := hbz4.trans (hb5.mono hbz4.size);obtain ⟨Y5, hY5⟩ : ∃ Y5, Y5 = w5.alloc (.cells #[.int .i64 S.p, .int .i64 S.m, .slice A5 S.mod.length c5, .int .i64 pts.length, .slice R5 k5 k5] 27) := ⟨_, rfl⟩;have hbY5 : Below w5.heap.size w5 Y5 := by rw [hY5]; exact (Below.refl _ _).alloc (Nat.le_refl _) _
 have hbzY5 := hbz5.trans (hbY5.mono hbz5.size);have hBY5 := hB.trans (hbzY5.mono hB.size);have hbVY5 : Below V.heap.size V Y5 := hb4.trans ((hb5.trans (hbY5.mono hb5.size)).mono hb4.size);obtain ⟨p5, hp5⟩ : ∃ p5, p5 = w5.heap.size := ⟨_, rfl⟩;have hY5s : p5 < Y5.heap.size := by rw [hY5, hp5]; simp
 have hbC5 : Hid (Bxs Y5 p5 [.int .i64 S.p, .int .i64 S.m, .slice A5 S.mod.length c5, .int .i64 pts.length, .slice R5 k5 k5]) := by rw [hY5, hp5]; exact Bxs.new w5 _ _
 have hr5Y := (hr5.below hbY5).more hbY5.size;have hru5Y := (hru5.rdm.below hbY5).more hbY5.size;have hk5 : k5 ≤ pts.length := hvc5.le;have hq := aGopCode_ok S F.toDesc p2 pts A B (some ⟨gq, 0, none⟩) D c b p2.length e1 Y5 ((hr.below hBY5).more hBY5.size) ((hrB.below hBY5).more hBY5.size) hgS hgF ((hrqV.below hbVY5).more hbVY5.size) ((hr2.below hBY5).more hBY5.size) hz2;rw [← modL_length S.toDesc, ← modL_length F.toDesc] at hq;replace hq := Lib.hid hq;obtain ⟨x0, x1, x2, x3, x4, x5, x6, x7⟩ := (hbQV.out.keep hbVY5 hVs).c8;rw [hY5] at x0 x1 x2 x3 x4 x5 x6 x7;replace hY5 := Lib.hid hY5;clear hru5;go_wp2_with (fail);rw [← hY5.out];simp only [← hp5];replace hp5 := Lib.hid hp5;(with_reducible refine hq.out.mono ?_);rintro e w6 ⟨F2, rt2, hF2, hrt2, k6, C6, A6, c6, R6, rfl, hvc6, hsp6, -, hr6, -, hru6, hb6⟩;clear hq x0 x1 x2 x3 x4 x5 x6 x7;have hin : ∀ i, i < k6 → Span k5 pts.length C5 (C6 i) := fun i hi => by
  obtain ⟨n1, g1, g2, g3, -⟩ := gop_facts hz;obtain ⟨n2, g4, g5, g6, -⟩ := gop_facts hz2;refine (hsp5 _).2 ?_;have h9 := (hsp6 _).1 (Span.row C6 hi);rw [g4, Nat.add_sub_cancel] at h9;rw [g1, Nat.add_sub_cancel];refine meets_nested g1 g2 g3 g4 g5 g6 ⟨plI F.toDesc wl, ?_⟩ (meets_two hF2 hrt hrt2 h9);rw [hp2.out, plI_mulI, mul_c]
 have hbz6 := hbzY5.trans (hb6.mono hbzY5.size);have hB6 := hB.trans (hbz6.mono hB.size);obtain ⟨Y6, hY6⟩ : ∃ Y6, Y6 = w6.alloc (.cells #[.int .i64 S.p, .int .i64 S.m, .slice A6 S.mod.length c6, .int .i64 pts.length, .slice R6 k6 k6] 27) := ⟨_, rfl⟩;have hbY6 : Below w6.heap.size w6 Y6 := by rw [hY6]; exact (Below.refl _ _).alloc (Nat.le_refl _) _
 have hb56 : Below Y5.heap.size Y5 Y6 := hb6.trans (hbY6.mono hb6.size);have hbC5' := hbC5.out.keep hb56 hY5s;have hbC6 : Bxs Y6 w6.heap.size [.int .i64 S.p, .int .i64 S.m, .slice A6 S.mod.length c6, .int .i64 pts.length, .slice R6 k6 k6] := by rw [hY6]; exact Bxs.new w6 _ _
 have hq := Lib.hid (Inside12_yes S pts.length k6 k5 C6 C5 A6 A5 R6 R5 c6 c5 k6 k5 Y6 hgS hvc6.can hvc5.can hn1 hn64 (by have := hvc6.le; omega) (by omega) hin ((hr6.below hbY6).more hbY6.size) ((hr5Y.below hb56).more hb56.size) ((hru6.rdm.below hbY6).more hbY6.size) ((hru5Y.below hb56).more hb56.size));obtain ⟨x0, x1, x2, x3, x4⟩ := hbC5'.c5;obtain ⟨y0, y1, y2, y3, y4⟩ := hbC6.c5;rw [hY6] at x0 x1 x2 x3 x4;replace hY6 := Lib.hid hY6;have hBe := hB6.trans (hbY6.mono hB6.size);clear hsp5 hsp6 hvc5 hvc6 hin hru6 hbC5' hbC6;go_wp2_with (fail);rw [← hY6.out];(with_reducible refine hq.out.mono ?_);rintro e w7 ⟨rfl, hb7⟩;have hfin := hBe.trans (hb7.mono hBe.size);clear x0 x1 x2 x3 x4 y0 y1 y2 y3 y4;go_wp2_with (fail);go_ret;exact ⟨rfl, hfin⟩
end
section
open Go.RowKit Cw

section
variable {R : Type} [CRing R]
theorem hP_snoc (l : List (R × R)) (a : R × R) : hP (l ++ [a]) = Pl.lin a.1 * hP l := by
 induction l with
 | nil => rfl
 | cons b l ih => show Pl.lin b.1 * hP (l ++ [a]) = Pl.lin a.1 * (Pl.lin b.1 * hP l); rw [ih]; ac_rfl
theorem nP_snoc (l : List (R × R)) (a : R × R) : nP (l ++ [a]) = Pl.lin a.1 * nP l + Pl.k a.2 * hP l := by
 induction l with
 | nil =>
  show Pl.k a.2 * 1 + Pl.lin a.1 * 0 = Pl.lin a.1 * 0 + Pl.k a.2 * 1
  exact add_c _ _
 | cons b l ih =>
  show Pl.k b.2 * hP (l ++ [a]) + Pl.lin b.1 * nP (l ++ [a]) = Pl.lin a.1 * (Pl.k b.2 * hP l + Pl.lin b.1 * nP l) + Pl.k a.2 * (Pl.lin b.1 * hP l)
  have e1 : Pl.lin b.1 * (Pl.lin a.1 * nP l) = Pl.lin a.1 * (Pl.lin b.1 * nP l) := by ac_rfl
  have e2 : Pl.lin b.1 * (Pl.k a.2 * hP l) = Pl.k a.2 * (Pl.lin b.1 * hP l) := by ac_rfl
  have e3 : Pl.k b.2 * (Pl.lin a.1 * hP l) = Pl.lin a.1 * (Pl.k b.2 * hP l) := by ac_rfl
  rw [ih, hP_snoc, mul_add, mul_add, e1, e2, e3, add_a]
end
theorem plI_addI (D : Desc) (p q : List Int) : plI D (addI D p q) = plI D p + plI D q := Pl.ext' fun t => congrFun (cfR_addI D p q) t
theorem plI_one (D : Desc) (x : Int) : plI D [x] = Pl.k (eli D x) := Pl.ext' fun t => by
 show eli D ([x][t]?.getD 0) = if t = 0 then eli D x else 0
 cases t with
 | zero => rfl
 | succ t => rw [if_neg (by omega)]; exact eli_zero
theorem plI_lin (D : Desc) (x : R D) : plI D [ci (-x), 1] = Pl.lin x := Pl.ext' fun t => by
 show eli D ([ci (-x), 1][t]?.getD 0) = if t = 0 then -x else if t = 1 then 1 else 0
 match t with
 | 0 => exact eli_ci _
 | 1 => exact eli_one
 | t + 2 => rw [if_neg (by omega), if_neg (by omega)]; exact eli_zero
def numK (D : Desc) (f x : Nat → Int) (i : Nat) : Nat → List Int
 | 0 => [f i]
 | k + 1 => if k = i then numK D f x i k else mulI D (numK D f x i k) [ci (-(eli D (x k))), 1]
def sumK (D : Desc) (f x : Nat → Int) (N : Nat) : Nat → List Int
 | 0 => []
 | i + 1 => addI D (sumK D f x N i) (numK D f x i N)
section
variable (D : Desc) (f x : Nat → Int)
theorem numK_eq {i k : Nat} (h : k = i) : numK D f x i (k + 1) = numK D f x i k := if_pos h
theorem numK_ne {i k : Nat} (h : ¬ k = i) : numK D f x i (k + 1) = mulI D (numK D f x i k) [ci (-(eli D (x k))), 1] := if_neg h
theorem numK_le (i : Nat) : ∀ k, (numK D f x i k).length ≤ 1 + 2 * k
 | 0 => Nat.le_refl _
 | k + 1 => by
  have ih := numK_le i k;by_cases h : k = i
  ·rw [numK_eq D f x h]; omega
  ·rw [numK_ne D f x h];have := mulI_le D (numK D f x i k) [ci (-(eli D (x k))), 1];have h2 : ([ci (-(eli D (x k))), 1] : List Int).length = 2 := rfl;omega
theorem addI_le (p q : List Int) : (addI D p q).length ≤ max p.length q.length := by unfold addI; rw [canL_length]; exact cdeg_le _ _
theorem sumK_le (N : Nat) : ∀ i, (sumK D f x N i).length ≤ 1 + 2 * N
 | 0 => Nat.zero_le _
 | i + 1 => by
  have h1 := sumK_le N i;have h2 := numK_le D f x i N;have h3 := addI_le D (sumK D f x N i) (numK D f x i N)
  show (addI D (sumK D f x N i) (numK D f x i N)).length ≤ _
  omega
def prs (N : Nat) : List (R D × R D) := (List.range N).map fun j => (eli D (x j), eli D (f j))
theorem prs_succ (N : Nat) : prs D f x (N + 1) = prs D f x N ++ [(eli D (x N), eli D (f N))] := by
 unfold prs; rw [List.range_succ, List.map_append]; rfl
theorem plI_numK_low (i : Nat) : ∀ k, k ≤ i → plI D (numK D f x i k) = Pl.k (eli D (f i)) * hP (prs D f x k)
 | 0, _ => by
  show plI D [f i] = Pl.k (eli D (f i)) * 1
  rw [plI_one, mul_one]
 | k + 1, h => by
  rw [numK_ne D f x (show ¬ k = i by omega), plI_mulI, plI_lin, plI_numK_low i k (by omega), prs_succ, hP_snoc]
  show _ = Pl.k (eli D (f i)) * (Pl.lin (eli D (x k)) * hP (prs D f x k))
  ac_rfl
theorem plI_sumK (N : Nat) : ∀ i, plI D (sumK D f x N i) = rsum i fun j => plI D (numK D f x j N)
 | 0 => plI_nil D
 | i + 1 => by
  rw [rsum_succ, ← plI_sumK N i];exact plI_addI D _ _
theorem plI_num : ∀ N, plI D (sumK D f x N N) = nP (prs D f x N) := fun N => by
 rw [plI_sumK]
 induction N with
 | zero => rfl
 | succ N ih =>
  rw [prs_succ, nP_snoc, rsum_succ, ← ih]
  show _ + plI D (numK D f x N (N + 1)) = Pl.lin (eli D (x N)) * _ + Pl.k (eli D (f N)) * hP (prs D f x N)
  rw [numK_eq D f x rfl, plI_numK_low D f x N N (Nat.le_refl _), ← rsum_mul_left]
  congr 1
  refine rsum_congr fun j hj => ?_
  rw [numK_ne D f x (show ¬ N = j by omega), plI_mulI, plI_lin, mul_c]
end
theorem rem_nil {F : FD} {p q r : List Int} {d : Nat} (h : QuoI F.toDesc p q r) (hr : canI F.toDesc r = r) (hl : r.length ≤ d) (hq : q.length = d + 1) (h0 : cfR F.toDesc q d ≠ 0) : r.length = 0 ↔ (plI F.toDesc q).dvd (plI F.toDesc p) := by
 obtain ⟨u, hu⟩ := h;constructor
 ·intro e;rw [List.eq_nil_of_length_eq_zero e, plI_nil, add_zero] at hu;exact ⟨u, hu⟩
 ·intro hd;have h1 : (plI F.toDesc q).dvd (plI F.toDesc r) := by
   have h2 : plI F.toDesc r = plI F.toDesc p - u * plI F.toDesc q := by rw [hu, sub_d, add_c (u * _), add_a, add_neg, add_zero]
   rw [h2];exact hd.sub (Pl.dvd.self _ _)
  have h3 : plI F.toDesc r = 0 := dvd_zero (n := d) (g := plI F.toDesc q) (fun t ht => cfR_out _ (by omega)) h0 (fun t ht => cfR_out _ (by omega)) h1;by_cases h4 : r.length = 0
  ·exact h4
  ·obtain ⟨n, hn⟩ : ∃ n, r.length = n + 1 := ⟨r.length - 1, by omega⟩;exact absurd (congrArg (fun a : Pl (R F.toDesc) => a.c n) h3) (can_lead hr hn)
end
end Go.Proofs.YtakonlfojblcmaaGreat
