/- Goppa descriptions over what is no field; the program's Check. Layer 19: the example of the chapter, and the program's Check. Plain: the weights of words that meet the checks of an alternant code, of a Goppa code. No Go here. Layer 19: the reference's check of any Goppa description; codes of multiples of a Goppa polynomial. Plain law of layer 39: the syndromes are 0 just for codewords. AlternantDimension: the law's walk. Layer 19: Designed of a valid description; the law's elements; the images of a word. -/
import Derived.BigQuiet
import Derived.Lib.AppendZerosOnto
import Derived.Test.YtakonlfojblcmaaGreatZgGA
import Derived.Test.YtakonlfojblcmaaGreatZgLA
import Derived.Test.YtakonlfojblcmaaGreatZgMat
import Derived.Test.YtakonlfojblcmaaGreatZgMH
import Derived.Test.YtakonlfojblcmaaGreatZgHasC
import Derived.Test.YtakonlfojblcmaaGreatZgCodC
import Derived.Test.YtakonlfojblcmaaGreatZgKnlP
import Derived.Test.YtakonlfojblcmaaGreatZgBxs
import Derived.Test.YtakonlfojblcmaaGreatZgGpoA
import Derived.Test.YtakonlfojblcmaaGreatZgPoR
import Derived.Test.YtakonlfojblcmaaGreatZgGrsQ
import Derived.Test.YtakonlfojblcmaaGreatZgPol5m
import Derived.Test.YtakonlfojblcmaaGreatZgGopW
import Derived.Test.YtakonlfojblcmaaGreatZgApR
import Derived.Test.YtakonlfojblcmaaGreatZgKerI
import Derived.Test.YtakonlfojblcmaaGreatZgKnl
import Derived.Test.YtakonlfojblcmaaGreatZgAlvP
import Derived.Test.YtakonlfojblcmaaGreatZgDivW
import Derived.Test.YtakonlfojblcmaaGreatZgGopD
import Derived.Test.YtakonlfojblcmaaGreatZgGopR
import Derived.Test.YtakonlfojblcmaaGreatZgDiv5
namespace Go.Proofs.YtakonlfojblcmaaGreat
section
open Go.RowKit Cw
attribute [local go_sem] Oper.semAt_some

set_option maxRecDepth 100000 in
set_option maxHeartbeats 2000000 in
theorem goppa_bad1 (P M : Int) (ml : List Int) (Q N : Int) (nl poly pts : List Int) (A B A1 A2 : Option Addr) (c b c1 c2 : Nat) (w : World) (hP : I64 P) (hM : I64 M) (hl : ml.length ≤ maxLen) (hr : Rd w w.heap.size A ml) (hb : ¬ Good P M ml) :
  Calls Tryz.prog 102 #[.agg #[.int .i64 P, .int .i64 M, .slice A ml.length c, .int .i64 Q, .int .i64 N, .slice B nl.length b, .slice A1 poly.length c1, .slice A2 pts.length c2]] w fun e w' => e = .returned (.tuple #[.agg #[.int .i64 0, .int .i64 0, .slice none 0 0, .pointer none, .slice none 0 0, .slice none 0 0, .int .i64 0], .slice none 0 0, .int .i64 1]) ∧ Below w.heap.size w w' := by
 have hCk := fCheck_any P M ml A c;rw [chk_no hb] at hCk;obtain ⟨s, hs⟩ : ∃ s, s = w.heap.size := ⟨_, rfl⟩;obtain ⟨Z, hZ⟩ : ∃ Z, Z = ((w.alloc (.cells #[.int .i64 P, .int .i64 M, .slice A ml.length c, .int .i64 Q, .int .i64 N, .slice B nl.length b, .slice A1 poly.length c1, .slice A2 pts.length c2] 44)).alloc (.cells #[.int .i64 0, .int .i64 0, .slice none 0 0, .pointer none, .slice none 0 0, .slice none 0 0, .int .i64 0] 135)).alloc (.cells #[.int .i64 0, .int .i64 0, .slice none 0 0, .pointer none, .slice none 0 0, .slice none 0 0, .int .i64 0] 135) := ⟨_, rfl⟩;have hgp : Hid (GP w s (#[.int .i64 P, .int .i64 M, .slice A ml.length c, .int .i64 Q, .int .i64 N, .slice B nl.length b, .slice A1 poly.length c1, .slice A2 pts.length c2]).toList Z.heap.size Z) := by
  rw [hZ, hs];exact Lib.hid (gp_new w _ _ _)
 have hq := Lib.hid (hCk Z hP hM hl ((hr.below hgp.out.bw).more hgp.out.wB));replace hZ := Lib.hid hZ;clear hCk hP hM hl hb;go_enter Tryz.func102, Tryz.ntmps102;obtain ⟨a0, a1, a2, a3, a4, a5, a6, a7⟩ := Bxs.c8 hgp.out.G;go_wp2_with (fail);rw [← hZ.out];simp only [← hs];have hsw : w.heap.size ≤ s := Nat.le_of_eq hs.symm;replace hs := Lib.hid hs;go_wp2_with (fail);(with_reducible refine hq.out.mono ?_);rintro e w1 ⟨rfl, hb⟩;clear hq a0 a1 a2 a3 a4 a5 a6 a7;replace hgp := Lib.hid ((hgp.out.below hb).more hb.size);clear hb;obtain ⟨u0, u1, u2, u3, u4, u5, u6⟩ := hgp.out.R.c7;obtain ⟨v0, v1, v2, v3, v4, v5, v6⟩ := hgp.out.R.f7;obtain ⟨z0, z1, z2, z3, z4, z5, z6⟩ := hgp.out.Z.c7;have hfin : Hid (Below w.heap.size w (stAll w1 (s + 1) 0 [.int .i64 0, .int .i64 0, .slice none 0 0, .pointer none, .slice none 0 0, .slice none 0 0, .int .i64 0])) := stAll_below (by omega) _ _ _ hgp.out.bw;go_wp2_with (fail);exact bodyPost_ret (v := .tuple #[.agg #[.int .i64 0, .int .i64 0, .slice none 0 0, .pointer none, .slice none 0 0, .slice none 0 0, .int .i64 0], .slice none 0 0, .int .i64 1]) (by simp [results, Tryz.results102, go_sem, u0, u1, u2, u3, u4, u5, u6]) rfl ⟨rfl, hfin.out⟩

set_option maxRecDepth 100000 in
set_option maxHeartbeats 2000000 in
theorem goppa_bad2 (S : Desc) (Q N : Int) (nl poly pts : List Int) (A B A1 A2 : Option Addr) (c b c1 c2 : Nat) (w : World) (hr : Rd w w.heap.size A (modL S)) (hS : Good S.p S.m (modL S)) (hQ : I64 Q) (hN : I64 N) (hl : nl.length ≤ maxLen) (hrB : Rd w w.heap.size B nl) (hb : ¬ Good Q N nl) :
  Calls Tryz.prog 102 #[.agg #[.int .i64 S.p, .int .i64 S.m, .slice A S.mod.length c, .int .i64 Q, .int .i64 N, .slice B nl.length b, .slice A1 poly.length c1, .slice A2 pts.length c2]] w fun e w' => e = .returned (.tuple #[.agg #[.int .i64 0, .int .i64 0, .slice none 0 0, .pointer none, .slice none 0 0, .slice none 0 0, .int .i64 0], .slice none 0 0, .int .i64 1]) ∧ Below w.heap.size w w' := by
 have hCk := fCheck_D S A c;rw [chk_yes hS] at hCk;have hNw := fun W a => Lib.hid (New_no Q N nl B b W hQ.2 hN.2 hl a hb)
 obtain ⟨s, hs⟩ : ∃ s, s = w.heap.size := ⟨_, rfl⟩;obtain ⟨Z, hZ⟩ : ∃ Z, Z = ((w.alloc (.cells #[.int .i64 S.p, .int .i64 S.m, .slice A S.mod.length c, .int .i64 Q, .int .i64 N, .slice B nl.length b, .slice A1 poly.length c1, .slice A2 pts.length c2] 44)).alloc (.cells #[.int .i64 0, .int .i64 0, .slice none 0 0, .pointer none, .slice none 0 0, .slice none 0 0, .int .i64 0] 135)).alloc (.cells #[.int .i64 0, .int .i64 0, .slice none 0 0, .pointer none, .slice none 0 0, .slice none 0 0, .int .i64 0] 135) := ⟨_, rfl⟩;have hgp : Hid (GP w s (#[.int .i64 S.p, .int .i64 S.m, .slice A S.mod.length c, .int .i64 Q, .int .i64 N, .slice B nl.length b, .slice A1 poly.length c1, .slice A2 pts.length c2]).toList Z.heap.size Z) := by
  rw [hZ, hs];exact Lib.hid (gp_new w _ _ _)
 have hq := Lib.hid (hCk Z ((hr.below hgp.out.bw).more hgp.out.wB));replace hZ := Lib.hid hZ;clear hCk hQ hN hl hb hS;go_enter Tryz.func102, Tryz.ntmps102;obtain ⟨a0, a1, a2, a3, a4, a5, a6, a7⟩ := Bxs.c8 hgp.out.G;go_wp2_with (fail);rw [← hZ.out];simp only [← hs];have hsw : w.heap.size ≤ s := Nat.le_of_eq hs.symm;replace hs := Lib.hid hs;go_wp2_with (fail);(with_reducible refine hq.out.mono ?_);rintro e w1 ⟨rfl, hb⟩;clear hq a0 a1 a2 a3 a4 a5 a6 a7;replace hgp := Lib.hid ((hgp.out.below hb).more hb.size);clear hb;have hq := hNw w1 ((hrB.below hgp.out.bw).more hgp.out.wB);obtain ⟨a0, a1, a2, a3, a4, a5, a6, a7⟩ := Bxs.c8 hgp.out.G;go_wp2_with (fail);(with_reducible refine hq.out.mono ?_);rintro e w2 ⟨rfl, hb⟩;clear hq a0 a1 a2 a3 a4 a5 a6 a7;replace hgp := Lib.hid ((hgp.out.below hb).more hb.size);clear hb;obtain ⟨u0, u1, u2, u3, u4, u5, u6⟩ := hgp.out.R.c7;obtain ⟨v0, v1, v2, v3, v4, v5, v6⟩ := hgp.out.R.f7;obtain ⟨z0, z1, z2, z3, z4, z5, z6⟩ := hgp.out.Z.c7;have hfin : Hid (Below w.heap.size w (stAll w2 (s + 1) 0 [.int .i64 0, .int .i64 0, .slice none 0 0, .pointer none, .slice none 0 0, .slice none 0 0, .int .i64 0])) := stAll_below (by omega) _ _ _ hgp.out.bw;go_wp2_with (fail);exact bodyPost_ret (v := .tuple #[.agg #[.int .i64 0, .int .i64 0, .slice none 0 0, .pointer none, .slice none 0 0, .slice none 0 0, .int .i64 0], .slice none 0 0, .int .i64 1]) (by simp [results, Tryz.results102, go_sem, u0, u1, u2, u3, u4, u5, u6]) rfl ⟨rfl, hfin.out⟩

set_option maxRecDepth 100000 in
set_option maxHeartbeats 2000000 in
theorem GopChk_bad1 (P M : Int) (ml : List Int) (Q N : Int) (nl poly pts : List Int) (A B A1 A2 : Option Addr) (c b c1 c2 : Nat) (w : World) (hP : I64 P) (hM : I64 M) (hl : ml.length ≤ maxLen) (hr : Rd w w.heap.size A ml) (hb : ¬ Good P M ml) :
  Calls Tryz.prog 29 #[.agg #[.int .i64 P, .int .i64 M, .slice A ml.length c, .int .i64 Q, .int .i64 N, .slice B nl.length b, .slice A1 poly.length c1, .slice A2 pts.length c2]] w fun e w' => e = .returned (.int .i64 1) ∧ Below w.heap.size w w' := by
 have hCk := fun W h => Check_any P M ml A c W hP.2 hM.2 hl h
 rw [chk_no hb] at hCk;obtain ⟨s, hs⟩ : ∃ s, s = w.heap.size := ⟨_, rfl⟩;obtain ⟨Z, hZ⟩ : ∃ Z, Z = w.alloc (.cells #[.int .i64 P, .int .i64 M, .slice A ml.length c, .int .i64 Q, .int .i64 N, .slice B nl.length b, .slice A1 poly.length c1, .slice A2 pts.length c2] 44) := ⟨_, rfl⟩;have hB : Below w.heap.size w Z := by rw [hZ]; exact (Below.refl _ _).alloc (Nat.le_refl _) _
 have hG : Hid (Bxs Z s (#[.int .i64 P, .int .i64 M, .slice A ml.length c, .int .i64 Q, .int .i64 N, .slice B nl.length b, .slice A1 poly.length c1, .slice A2 pts.length c2]).toList) := by rw [hZ, hs]; exact Lib.hid (Bxs.new w _ _)
 have hsZ : s < Z.heap.size := by rw [hZ, hs]; simp
 have hq := Lib.hid (hCk Z ((hr.below hB).more hB.size));replace hZ := Lib.hid hZ;clear hCk hP hM hl hb;go_enter Tryz.func29, Tryz.ntmps29;obtain ⟨a0, a1, a2, a3, a4, a5, a6, a7⟩ := Bxs.c8 hG.out;go_wp2_with (fail);rw [← hZ.out];simp only [← hs];have hsw : w.heap.size ≤ s := Nat.le_of_eq hs.symm;replace hs := Lib.hid hs;go_wp2_with (fail);(with_reducible refine hq.out.mono ?_);rintro e w1 ⟨rfl, hb⟩;clear hq a0 a1 a2 a3 a4 a5 a6 a7;replace hB := hB.trans (hb.mono hB.size);replace hG := Lib.hid (hG.out.keep hb hsZ);replace hsZ := Nat.lt_of_lt_of_le hsZ hb.size;clear hb;go_wp2_with (fail);go_ret;exact ⟨rfl, hB⟩

set_option maxRecDepth 100000 in
set_option maxHeartbeats 2000000 in
theorem GopChk_bad2 (S : Desc) (Q N : Int) (nl poly pts : List Int) (A B A1 A2 : Option Addr) (c b c1 c2 : Nat) (w : World) (hr : Rd w w.heap.size A (modL S)) (hS : Good S.p S.m (modL S)) (hQ : I64 Q) (hN : I64 N) (hl : nl.length ≤ maxLen) (hrB : Rd w w.heap.size B nl) (hb : ¬ Good Q N nl) :
  Calls Tryz.prog 29 #[.agg #[.int .i64 S.p, .int .i64 S.m, .slice A S.mod.length c, .int .i64 Q, .int .i64 N, .slice B nl.length b, .slice A1 poly.length c1, .slice A2 pts.length c2]] w fun e w' => e = .returned (.int .i64 1) ∧ Below w.heap.size w w' := by
 have hp1 := S.p256; have hp2 := S.m8;have hmlS : (modL S).length ≤ maxLen := by rw [modL_length]; have := S.hlen; rw [this]; unfold maxLen; split <;> omega
 have hCk := fun W h => Check_any S.p S.m (modL S) A c W (by omega) (by omega) hmlS h
 rw [chk_yes hS, modL_length] at hCk;have hCk2 := fun W h => Check_any Q N nl B b W hQ.2 hN.2 hl h
 rw [chk_no hb] at hCk2;replace hCk2 := fun W h => Lib.hid (hCk2 W h)
 obtain ⟨s, hs⟩ : ∃ s, s = w.heap.size := ⟨_, rfl⟩;obtain ⟨Z, hZ⟩ : ∃ Z, Z = w.alloc (.cells #[.int .i64 S.p, .int .i64 S.m, .slice A S.mod.length c, .int .i64 Q, .int .i64 N, .slice B nl.length b, .slice A1 poly.length c1, .slice A2 pts.length c2] 44) := ⟨_, rfl⟩;have hB : Below w.heap.size w Z := by rw [hZ]; exact (Below.refl _ _).alloc (Nat.le_refl _) _
 have hG : Hid (Bxs Z s (#[.int .i64 S.p, .int .i64 S.m, .slice A S.mod.length c, .int .i64 Q, .int .i64 N, .slice B nl.length b, .slice A1 poly.length c1, .slice A2 pts.length c2]).toList) := by rw [hZ, hs]; exact Lib.hid (Bxs.new w _ _)
 have hsZ : s < Z.heap.size := by rw [hZ, hs]; simp
 have hq := Lib.hid (hCk Z ((hr.below hB).more hB.size));replace hZ := Lib.hid hZ;clear hCk hQ hN hl hb hS hmlS;go_enter Tryz.func29, Tryz.ntmps29;obtain ⟨a0, a1, a2, a3, a4, a5, a6, a7⟩ := Bxs.c8 hG.out;go_wp2_with (fail);rw [← hZ.out];simp only [← hs];have hsw : w.heap.size ≤ s := Nat.le_of_eq hs.symm;replace hs := Lib.hid hs;go_wp2_with (fail);(with_reducible refine hq.out.mono ?_);rintro e w1 ⟨rfl, hb⟩;clear hq a0 a1 a2 a3 a4 a5 a6 a7;replace hB := hB.trans (hb.mono hB.size);replace hG := Lib.hid (hG.out.keep hb hsZ);replace hsZ := Nat.lt_of_lt_of_le hsZ hb.size;clear hb;have hq := hCk2 w1 ((hrB.below hB).more hB.size);obtain ⟨a0, a1, a2, a3, a4, a5, a6, a7⟩ := Bxs.c8 hG.out;go_wp2_with (fail);(with_reducible refine hq.out.mono ?_);rintro e w2 ⟨rfl, hb⟩;clear hq a0 a1 a2 a3 a4 a5 a6 a7;replace hB := hB.trans (hb.mono hB.size);clear hb;go_wp2_with (fail);go_ret;exact ⟨rfl, hB⟩

end
section
open Go.RowKit Cw
attribute [local go_sem] Oper.semAt_some

theorem rd_lit19 (W : World) (l : List Int) : Rd (W.alloc (.cells (l.map (Value.int .i64)).toArray 3)) (W.heap.size + 1) (some ⟨W.heap.size, 0, none⟩) l := by
 have h := rd_new W l;rw [World.size_alloc] at h;exact h
theorem gop19 : gopD D2 E2_3 [1, 1, 1] pts19 = 0 := by decide +kernel
theorem sqf19 : SqfP D2 E2_3 [1, 1, 1] := ⟨⟨rfl, rfl⟩, by
 obtain ⟨F, hF⟩ := good_FD good8;have h := cop19 hF;rw [hF] at h;exact h⟩
theorem des19 : desN D2 E2_3 [1, 1, 1] = 5 := by rw [desN_yes sqf19]; decide
set_option maxRecDepth 100000 in
set_option maxHeartbeats 8000000 in
theorem alive19_any (w : World) : Calls Tryz.prog 27 #[] w fun e w' => e = .returned (.bool true) ∧ Below w.heap.size w w' := by
 obtain ⟨S, hS⟩ := good_FD good2;have e1 : (S.p : Int) = 2 := by rw [hS]; rfl
 have e2 : (S.m : Int) = 1 := by rw [hS]; rfl
 have e3 : S.mod.length = 0 := by rw [hS]; rfl
 have hgS : Good S.p S.m (modL S.toDesc) := by rw [hS]; exact good2
 have hzS : gopD S.toDesc E2_3 [1, 1, 1] pts19 = 0 := by rw [hS]; exact gop19
 obtain ⟨s, hs⟩ : ∃ s, s = w.heap.size := ⟨_, rfl⟩;obtain ⟨Z1, hZ1⟩ : ∃ Z1, Z1 = w.alloc (.cells #[.int .i64 1, .int .i64 1, .int .i64 0] 3) := ⟨_, rfl⟩;obtain ⟨Z2, hZ2⟩ : ∃ Z2, Z2 = Z1.alloc (.cells #[.int .i64 1, .int .i64 1, .int .i64 1] 3) := ⟨_, rfl⟩;obtain ⟨Z3, hZ3⟩ : ∃ Z3, Z3 = Z2.alloc (.cells #[.int .i64 0, .int .i64 1, .int .i64 2, .int .i64 3, .int .i64 4, .int .i64 5, .int .i64 6, .int .i64 7] 3) := ⟨_, rfl⟩;obtain ⟨Z4, hZ4⟩ : ∃ Z4, Z4 = Z3.alloc (.cells #[.int .i64 2, .int .i64 1, .slice none 0 0, .int .i64 2, .int .i64 3, .slice (some ⟨s, 0, none⟩) 3 3, .slice (some ⟨s + 1, 0, none⟩) 3 3, .slice (some ⟨s + 1 + 1, 0, none⟩) 8 8] 44) := ⟨_, rfl⟩;have z1 : Z1.heap.size = s + 1 := by rw [hZ1, hs]; simp
 have z2 : Z2.heap.size = s + 2 := by rw [hZ2]; simp [z1]
 have z3 : Z3.heap.size = s + 3 := by rw [hZ3]; simp [z2]
 have z4 : Z4.heap.size = s + 4 := by rw [hZ4]; simp [z3]
 have b1 : Below s w Z1 := by rw [hZ1]; exact (Below.refl _ _).alloc (Nat.le_of_eq hs) _
 have b2 : Below (s + 1) Z1 Z2 := by rw [hZ2]; exact (Below.refl _ _).alloc (Nat.le_of_eq z1.symm) _
 have b3 : Below (s + 2) Z2 Z3 := by rw [hZ3]; exact (Below.refl _ _).alloc (Nat.le_of_eq z2.symm) _
 have b4 : Below (s + 3) Z3 Z4 := by rw [hZ4]; exact (Below.refl _ _).alloc (Nat.le_of_eq z3.symm) _
 have r1 : Rd Z1 (s + 1) (some ⟨s, 0, none⟩) [1, 1, 0] := by have h := rd_lit19 w [1, 1, 0]; rw [hZ1, hs]; exact h
 have r2 : Rd Z2 (s + 2) (some ⟨s + 1, 0, none⟩) [1, 1, 1] := by have h := rd_lit19 Z1 [1, 1, 1]; rw [z1] at h; rw [hZ2]; exact h
 have r3 : Rd Z3 (s + 3) (some ⟨s + 1 + 1, 0, none⟩) pts19 := by have h := rd_lit19 Z2 pts19; rw [z2] at h; rw [hZ3]; exact h
 have c34 := b4;have c24 := b3.trans (c34.mono (show s + 2 ≤ s + 3 by omega));have c14 := b2.trans (c24.mono (show s + 1 ≤ s + 2 by omega));have hB : Below s w Z4 := b1.trans (c14.mono (show s ≤ s + 1 by omega));have hmod : modL E2_3 = [1, 1, 0] := by decide
 have rr1 : Rd Z4 Z4.heap.size (some ⟨s, 0, none⟩) [1, 1, 0] := by rw [z4]; exact (r1.below c14).more (by omega)
 have rr2 : Rd Z4 Z4.heap.size (some ⟨s + 1, 0, none⟩) [1, 1, 1] := by rw [z4]; exact (r2.below c24).more (by omega)
 have rr3 : Rd Z4 Z4.heap.size (some ⟨s + 1 + 1, 0, none⟩) pts19 := by rw [z4]; exact (r3.below c34).more (by omega)
 have hbG : Hid (Bxs Z4 (s + 1 + 1 + 1) [.int .i64 2, .int .i64 1, .slice none 0 0, .int .i64 2, .int .i64 3, .slice (some ⟨s, 0, none⟩) 3 3, .slice (some ⟨s + 1, 0, none⟩) 3 3, .slice (some ⟨s + 1 + 1, 0, none⟩) 8 8]) := by have h := Bxs.new Z3 [.int .i64 2, .int .i64 1, .slice none 0 0, .int .i64 2, .int .i64 3, .slice (some ⟨s, 0, none⟩) 3 3, .slice (some ⟨s + 1, 0, none⟩) 3 3, .slice (some ⟨s + 1 + 1, 0, none⟩) 8 8] 44; rw [z3] at h; rw [hZ4]; exact h
 have hC : ∀ W, Below Z4.heap.size Z4 W → Calls Tryz.prog 31 #[.agg #[.int .i64 2, .int .i64 1, .slice none 0 0, .int .i64 2, .int .i64 3, .slice (some ⟨s, 0, none⟩) 3 3, .slice (some ⟨s + 1, 0, none⟩) 3 3, .slice (some ⟨s + 1 + 1, 0, none⟩) 8 8]] W (GCPost S E2_3 [1, 1, 1] pts19 W) := fun W hb => by
  have h := aGopCode_ok S E2_3 [1, 1, 1] pts19 none (some ⟨s, 0, none⟩) (some ⟨s + 1, 0, none⟩) (some ⟨s + 1 + 1, 0, none⟩) 0 3 3 8 W (by rw [hS]; exact Rd.nil) (by rw [hmod]; exact (rr1.below hb).more hb.size) hgS good8 ((rr2.below hb).more hb.size) ((rr3.below hb).more hb.size) hzS;rw [e1, e2, e3] at h;exact h
 have hDz : ∀ W, Below Z4.heap.size Z4 W → Calls Tryz.prog 35 #[.agg #[.int .i64 2, .int .i64 1, .slice none 0 0, .int .i64 2, .int .i64 3, .slice (some ⟨s, 0, none⟩) 3 3, .slice (some ⟨s + 1, 0, none⟩) 3 3, .slice (some ⟨s + 1 + 1, 0, none⟩) 8 8]] W fun e w' => e = .returned (.tuple #[.int .i64 5, .int .i64 0]) ∧ Below W.heap.size W w' := fun W hb => by
  have h := aGopDes_ok S E2_3 [1, 1, 1] pts19 none (some ⟨s, 0, none⟩) (some ⟨s + 1, 0, none⟩) (some ⟨s + 1 + 1, 0, none⟩) 0 3 3 8 W (by rw [hS]; exact Rd.nil) (by rw [hmod]; exact (rr1.below hb).more hb.size) hgS good8 ((rr2.below hb).more hb.size) ((rr3.below hb).more hb.size) hzS;rw [e1, e2, e3, hS, des19] at h;exact h
 have hq := Lib.hid (hC Z4 (Below.refl _ _));replace hDz := fun W hb => Lib.hid (hDz W hb)
 clear hC rr1 rr2 rr3 r1 r2 r3 c34 c24 c14 b1 b2 b3 b4 z1 z2 z3;replace e1 := Lib.hid e1;replace e2 := Lib.hid e2;replace e3 := Lib.hid e3;go_enter Tryz.func27, Tryz.ntmps27;obtain ⟨a0, a1, a2, a3, a4, a5, a6, a7⟩ := hbG.out.c8;go_wp2_with (fail);rw [← hZ1, ← hZ2, ← hZ3];simp only [← hs];rw [← hZ4];have hsw : w.heap.size = s := hs.symm;replace hs := Lib.hid hs;replace hZ1 := Lib.hid hZ1;replace hZ2 := Lib.hid hZ2;replace hZ3 := Lib.hid hZ3;replace hZ4 := Lib.hid hZ4;replace hsw := Lib.hid hsw;(with_reducible refine hq.out.mono ?_);rintro e w1 ⟨F, rt, hF, -, k, C, A3, c3, Al, rfl, hvc, hsp, -, -, -, -, hb1⟩;obtain rfl : k = 2 := alv_k hS hF hvc.can (fun u => hsp u);clear hq hvc hsp a0 a1 a2 a3 a4 a5 a6 a7;rw [show pts19.length = 8 from rfl, e1.out, e2.out, e3.out];obtain ⟨Y, hY⟩ : ∃ Y, Y = w1.alloc (.cells #[.int .i64 2, .int .i64 1, .slice A3 0 c3, .int .i64 8, .slice Al 2 2] 27) := ⟨_, rfl⟩;have hbY : Below w1.heap.size w1 Y := by rw [hY]; exact (Below.refl _ _).alloc (Nat.le_refl _) _
 have hbZY := hb1.trans (hbY.mono hb1.size);have hq2 := hDz Y hbZY;have hbC : Hid (Bxs Y w1.heap.size [.int .i64 2, .int .i64 1, .slice A3 0 c3, .int .i64 8, .slice Al 2 2]) := by rw [hY]; exact Bxs.new w1 _ _
 have hYl : w1.heap.size < Y.heap.size := by rw [hY]; simp
 obtain ⟨a0, a1, a2, a3, a4, a5, a6, a7⟩ := (hbG.out.keep hbZY (by have := z4; omega)).c8;rw [hY] at a0 a1 a2 a3 a4 a5 a6 a7;obtain ⟨pc, hpc⟩ : ∃ pc, pc = w1.heap.size := ⟨_, rfl⟩;rw [← hpc] at hbC hYl;replace hY := Lib.hid hY;go_wp2_with (fail);rw [← hY.out];simp only [← hpc];replace hpc := Lib.hid hpc;(with_reducible refine hq2.out.mono ?_);rintro e w2 ⟨rfl, hb2⟩;obtain ⟨c0, c1, c2, c3', c4⟩ := (hbC.out.keep hb2 hYl).c5;clear a0 a1 a2 a3 a4 a5 a6 a7 hq2 hDz;have hfin : Hid (Below w.heap.size w w2) := by
  rw [Hid, hsw.out];exact hB.trans ((hbZY.trans (hb2.mono hbZY.size)).mono (by have := z4; omega))
 go_wp2_with (fail);go_ret;exact ⟨rfl, hfin.out⟩

end
section
open Go.RowKit Cw
open Cw.CField (inv)
theorem wgt_row (D : Desc) (N : Nat) (u : Nat → R D) : wgt (rowL D N u) = ((List.range N).filter fun j => ci (u j) != 0).length := by
 unfold wgt rowL lst;rw [List.filter_map, List.length_map];rfl
section
variable {S F : FD} {r : R F.toDesc} {N t k : Nat} {h : Nat → Nat → R F.toDesc} {u : Nat → R S.toDesc}
theorem meets_weight {x y : Nat → R F.toDesc} (hinj : ∀ i j, i < N → j < N → x i = x j → i = j) (hy : ∀ j, j < N → y j ≠ 0) (hp : S.p = F.p) (h0 : muV S F r = 0) (hh : ∀ i j, i < t → j < N → h i j = y j * pw (x j) i)
  (hu : ∃ j, j < N ∧ u j ≠ 0) (hm : Meets S F r N t h u) : t + 1 ≤ wgt (rowL S.toDesc N u) := by
 obtain ⟨j0, hj0, hne⟩ := hu;rw [wgt_row];refine van_weight (u := fun j => phi S F r (u j)) hinj hy (fun i hi => ?_) (fun j => ci (u j) != 0) (fun j _ e => ?_) hj0 fun e => hne ((phi_eq_zero hp h0).1 e)
 ·rw [← hm i hi];exact rsum_congr fun j hj => by rw [hh i j hi hj]
 ·have e2 : ci (u j) = 0 := by simpa using e
  have e3 : u j = 0 := ci_inj (e2.trans ci_zero.symm);rw [e3, phi_zero]
theorem enc_ne {C : Nat → Nat → R S.toDesc} (hcan : Canl S k N C) {c : Nat → R S.toDesc} (hc : ∃ i, i < k ∧ c i ≠ 0) : ∃ j, j < N ∧ rsum k (fun i => c i * C i j) ≠ 0 := by
 obtain ⟨i, hi, hne⟩ := hc;have hR := elS_RR k N C;have hk : (elS k C N).2.length = k := hcan.1;rw [hk] at hR;refine ⟨_, hR.lt i hi, fun e => hne ?_⟩;rw [← hR.coef (v := fun j => rsum k fun i => c i * C i j) (c := c) (fun j hj => rsum_congr fun t ht => ?_) hi]
 ·exact e
 ·congr 1
  have h2 : (rowsL S.toDesc N (elS k C N).1 t)[j]?.getD 0 = (rowsL S.toDesc N C t)[j]?.getD 0 := by rw [hcan.2 t ht]
  rw [rowsL_get _ _ _ hj, rowsL_get _ _ _ hj] at h2;exact (ci_inj h2).symm
end
section
variable {S F : FD} {r : R F.toDesc} {N t : Nat} {poly pts : List Int} {u : Nat → R S.toDesc}
theorem gop_gsum (F : FD) (poly pts : List Int) (N : Nat) (v : Nat → R F.toDesc) (i : Nat) : gsum (plI F.toDesc poly) ((List.range N).map fun j => (eli F.toDesc (pts[j]?.getD 0), v j)) i = rsum N fun j => gopM F poly pts i j * v j := by
 unfold gsum;rw [lsum_map, lsum_range];refine rsum_congr fun j _ => ?_
 dsimp only;rw [plI_ev];unfold gopM
 ac_rfl
theorem meets_square (hq : S.q = 2) (hp : S.p = F.p) {n : Nat} (hl : poly.length = n + 1) (h0 : cfR F.toDesc poly n ≠ 0) (hs : Cop (plI F.toDesc poly) (plI F.toDesc poly).D) (hz : ∀ j, j < N → pevI F.toDesc poly (eli F.toDesc (pts[j]?.getD 0)) ≠ 0)
  (hm : Meets S F r N n (gopM F poly pts) u) : Meets S F r N (n + n) (fun i j => inv (pevI F.toDesc poly (eli F.toDesc (pts[j]?.getD 0)) * pevI F.toDesc poly (eli F.toDesc (pts[j]?.getD 0))) * pw (eli F.toDesc (pts[j]?.getD 0)) i) u := by
 have hp2 : S.p = 2 := by
  have h1 := S.toDesc.p2;have h2 : S.p ^ 1 ≤ S.p ^ S.m := Nat.pow_le_pow_right (by omega) S.m1;rw [Nat.pow_one] at h2;have h3 : S.p ^ S.m = 2 := hq;omega
 have hc : nsm 2 (1 : R F.toDesc) = 0 := by rw [← hp2, hp]; exact char_R
 have key := gsum_square hc (g := plI F.toDesc poly) (n := n) (fun t ht => cfR_out _ (by omega)) h0 hs ((List.range N).map fun j => (eli F.toDesc (pts[j]?.getD 0), phi S F r (u j)))
  (fun a ha => by
   obtain ⟨j, hj, rfl⟩ := List.mem_map.1 ha;rw [plI_ev];exact hz j (List.mem_range.1 hj))
  (fun a ha => by
   obtain ⟨j, hj, rfl⟩ := List.mem_map.1 ha;have h1 : rcode (u j) < 2 := by rw [← hq]; exact rcode_lt (u j)
   have h2 : rcode (u j) = 0 ∨ rcode (u j) = 1 := by omega
   rcases h2 with e | e
   ·left
    show phi S F r (u j) = 0
    rw [show u j = 0 from rcode_inj (e.trans rcode_zero.symm), phi_zero]
   ·right
    show phi S F r (u j) = 1
    rw [show u j = 1 from rcode_inj (e.trans rcode_one.symm), phi_one])
  (fun i hi => by rw [gop_gsum]; exact hm i hi)
 intro i hi;have h1 := key i hi;unfold gsum at h1;rw [lsum_map, lsum_range] at h1;rw [← h1];refine rsum_congr fun j _ => ?_
 dsimp only;rw [ev_mul, plI_ev]
 ac_rfl
end
end
section
open Go.RowKit Cw

section
variable {S F : FD} {r : R F.toDesc} {poly pts : List Int} {u : Nat → R S.toDesc}
theorem gop_facts {S' : Desc} (hz : gopD S' F.toDesc poly pts = 0) : ∃ n, poly.length = n + 1 ∧ cfR F.toDesc poly n ≠ 0 ∧ (∀ j, j < pts.length → pevI F.toDesc poly (eli F.toDesc (pts[j]?.getD 0)) ≠ 0) ∧ ∀ i j, i < pts.length → j < pts.length → eli F.toDesc (pts[i]?.getD 0) = eli F.toDesc (pts[j]?.getD 0) → i = j := by
 obtain ⟨-, -, hp1, hp2, htw, hl2, -, htop, hroot⟩ := gopD_zero hz;obtain ⟨n, hn⟩ : ∃ n, poly.length = n + 1 := ⟨poly.length - 1, by omega⟩;refine ⟨n, hn, ?_, fun j hj e => hroot ?_, pts_inj hp1 htw⟩
 ·rw [hn, Nat.add_sub_cancel] at htop;exact eli_ne (elB_iff.1 hp2 n (by omega)) htop
 ·have h9 : (valL F.toDesc poly pts)[j]?.getD 0 = 0 := by unfold valL; rw [lst_get _ hj, e, ci_zero]
  rw [← h9];exact mem_get (by unfold valL; rw [lst_length]; exact hj)
end
end
end Go.Proofs.YtakonlfojblcmaaGreat

namespace Cw
section lagsyn
variable {F : Type} [CField F]
open CField (inv)
end lagsyn
end Cw
namespace Go.Proofs.YtakonlfojblcmaaGreat
section
open Go.RowKit Cw
open Cw.CField (inv)
theorem wgt_zero_iff (l : List Int) : wgt l = 0 ↔ ∀ x ∈ l, x = 0 := by
 constructor
 ·intro h x hx;unfold wgt at h;have h1 := List.length_eq_zero_iff.1 h;have h2 := List.filter_eq_nil_iff.1 h1 x hx
  simpa using h2
 ·exact wgt_zero
end
section
open Go.RowKit Cw
attribute [local go_sem] Oper.semAt_some

set_option maxHeartbeats 1000000 in
theorem few19_any (A : Option Addr) (n c : Nat) (w : World) : Calls Tryz.prog 28 #[.slice A n c] w fun e w' => e = .returned (.bool (decide ((n : Int) ≤ 20))) ∧ w = w' := by
 go_enter Tryz.func28, Tryz.ntmps28;go_wp2_with (fail);go_ret;exact ⟨rfl, rfl⟩
end
section
open Go.RowKit Cw
attribute [local go_sem] Oper.semAt_some

set_option maxHeartbeats 1000000 in
theorem elems19_any (D : Desc) (l : List Int) (K : Int) (A A3 : Option Addr) (c c3 : Nat) (w : World) (hr3 : Rd w w.heap.size A3 l) (h3 : l.length ≤ maxLen) :
  Calls Tryz.prog 30 #[.agg #[.int .i64 D.p, .int .i64 D.m, .slice A D.mod.length c], .slice A3 l.length c3, .int .i64 K] w fun e w' => e = .returned (.bool (elErr D l K 4 == 0)) ∧ Below w.heap.size w w' := by
 obtain ⟨Z, hZ⟩ : ∃ Z, Z = w.alloc (.cells #[.int .i64 D.p, .int .i64 D.m, .slice A D.mod.length c] 24) := ⟨_, rfl⟩;have hB : Below w.heap.size w Z := by rw [hZ]; exact (Below.refl _ _).alloc (Nat.le_refl _) _
 obtain ⟨q0, q1, q2⟩ := alloc3 w (.int .i64 D.p) (.int .i64 D.m) (.slice A D.mod.length c) 24;have hq := Lib.hid (Elems18_any D l K 4 A A3 c c3 Z ((hr3.below hB).more hB.size) h3);replace hZ := Lib.hid hZ;generalize elErr D l K 4 = E at *;go_enter Tryz.func30, Tryz.ntmps30;go_wp2_with (fail);rw [← hZ.out];(with_reducible refine hq.out.mono ?_);rintro e w1 ⟨rfl, hb⟩;go_wp2_with (fail);go_ret;exact ⟨rfl, hB.trans (hb.mono hB.size)⟩
theorem elErr4_zero {D : Desc} {l : List Int} {K : Int} (h : elErr D l K 4 = 0) : (l.length : Int) = K ∧ elB D l = true := by
 unfold elErr at h;by_cases h1 : (l.length : Int) ≠ K
 ·rw [if_pos h1] at h; cases h
 ·rw [if_neg h1] at h;refine ⟨Classical.not_not.1 h1, ?_⟩
  cases hb : elB D l with
  | true => rfl
  | false => rw [hb, if_pos rfl] at h; cases h
end
end Go.Proofs.YtakonlfojblcmaaGreat
