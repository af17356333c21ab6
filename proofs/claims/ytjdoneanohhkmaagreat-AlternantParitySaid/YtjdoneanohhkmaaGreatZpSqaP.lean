/- Goppa descriptions over what is no field; the program's Check. Layer 19: the example of the chapter, and the program's Check. Plain: the weights of words that meet the checks of an alternant code, of a Goppa code. No Go here. Layer 19: the reference's check of any Goppa description; codes of multiples of a Goppa polynomial. Layers 5 and 38 of the program: Mul of two factors, Degree, Sub, euclid. Layer 5 of the program: FromRoots. AlternantDimension: the law's walk. Goppa descriptions that are refused: goppa, GoppaDesigned. The reference's Designed. Plain: the square of a Goppa polynomial; its code. No Go here. -/
import Derived.BigQuiet
import Derived.Lib.AppendZerosOnto
import Derived.Test.YtjdoneanohhkmaaGreatZpGA
import Derived.Test.YtjdoneanohhkmaaGreatZpLA
import Derived.Test.YtjdoneanohhkmaaGreatZpMat
import Derived.Test.YtjdoneanohhkmaaGreatZpMH
import Derived.Test.YtjdoneanohhkmaaGreatZpCodC
import Derived.Test.YtjdoneanohhkmaaGreatZpPlyQ
import Derived.Test.YtjdoneanohhkmaaGreatZpBxs
import Derived.Test.YtjdoneanohhkmaaGreatZpPol5m
import Derived.Test.YtjdoneanohhkmaaGreatZpGpoC
import Derived.Test.YtjdoneanohhkmaaGreatZpGopW
import Derived.Test.YtjdoneanohhkmaaGreatZpApR
import Derived.Test.YtjdoneanohhkmaaGreatZpKer
import Derived.Test.YtjdoneanohhkmaaGreatZpKnl
import Derived.Test.YtjdoneanohhkmaaGreatZpAlvP
import Derived.Test.YtjdoneanohhkmaaGreatZpDivW
import Derived.Test.YtjdoneanohhkmaaGreatZpGopD
import Derived.Test.YtjdoneanohhkmaaGreatZpGopR
import Derived.Test.YtjdoneanohhkmaaGreatZpGcd5
import Derived.Test.YtjdoneanohhkmaaGreatZpGopRow
namespace Go.Proofs.YtjdoneanohhkmaaGreat
section
open Go.RowKit Cw
attribute [local go_sem] Oper.semAt_some

set_option maxRecDepth 100000 in
set_option maxHeartbeats 2000000 in
theorem goppa_bad1 (P M : Int) (ml : List Int) (Q N : Int) (nl poly pts : List Int) (A B A1 A2 : Option Addr) (c b c1 c2 : Nat) (w : World) (hP : I64 P) (hM : I64 M) (hl : ml.length ≤ maxLen) (hr : Rd w w.heap.size A ml) (hb : ¬ Good P M ml) :
  Calls Tryz.prog 89 #[.agg #[.int .i64 P,.int .i64 M,.slice A ml.length c,.int .i64 Q,.int .i64 N,.slice B nl.length b,.slice A1 poly.length c1,.slice A2 pts.length c2]] w fun e w' => e = .returned (.tuple #[.agg #[.int .i64 0,.int .i64 0,.slice none 0 0,.pointer none,.slice none 0 0,.slice none 0 0,.int .i64 0],.slice none 0 0,.int .i64 1]) ∧ Below w.heap.size w w' := by
 have hCk := fCheck_any P M ml A c;rw [chk_no hb] at hCk;obtain ⟨s,hs⟩ : ∃ s,s = w.heap.size := ⟨_,rfl⟩;obtain ⟨Z,hZ⟩ : ∃ Z,Z = ((w.alloc (.cells #[.int .i64 P,.int .i64 M,.slice A ml.length c,.int .i64 Q,.int .i64 N,.slice B nl.length b,.slice A1 poly.length c1,.slice A2 pts.length c2] 44)).alloc (.cells #[.int .i64 0,.int .i64 0,.slice none 0 0,.pointer none,.slice none 0 0,.slice none 0 0,.int .i64 0] 130)).alloc (.cells #[.int .i64 0,.int .i64 0,.slice none 0 0,.pointer none,.slice none 0 0,.slice none 0 0,.int .i64 0] 130) := ⟨_,rfl⟩;have hgp : Hid (GP w s (#[.int .i64 P,.int .i64 M,.slice A ml.length c,.int .i64 Q,.int .i64 N,.slice B nl.length b,.slice A1 poly.length c1,.slice A2 pts.length c2]).toList Z.heap.size Z) := by
  rw [hZ,hs];exact Lib.hid (gp_new w _ _ _)
 have hq := Lib.hid (hCk Z hP hM hl ((hr.below hgp.out.bw).more hgp.out.wB));replace hZ := Lib.hid hZ;clear hCk hP hM hl hb;go_enter Tryz.func89,Tryz.ntmps89;obtain ⟨a0,a1,a2,a3,a4,a5,a6,a7⟩ := Bxs.c8 hgp.out.G;go_wp2_with (fail);rw [← hZ.out];simp only [← hs];have hsw : w.heap.size ≤ s := Nat.le_of_eq hs.symm;replace hs := Lib.hid hs;go_wp2_with (fail);(with_reducible refine hq.out.mono ?_);rintro e w1 ⟨rfl,hb⟩;clear hq a0 a1 a2 a3 a4 a5 a6 a7;replace hgp := Lib.hid ((hgp.out.below hb).more hb.size);clear hb;obtain ⟨u0,u1,u2,u3,u4,u5,u6⟩ := hgp.out.R.c7;obtain ⟨v0,v1,v2,v3,v4,v5,v6⟩ := hgp.out.R.f7;obtain ⟨z0,z1,z2,z3,z4,z5,z6⟩ := hgp.out.Z.c7;have hfin : Hid (Below w.heap.size w (stAll w1 (s + 1) 0 [.int .i64 0,.int .i64 0,.slice none 0 0,.pointer none,.slice none 0 0,.slice none 0 0,.int .i64 0])) := stAll_below (by omega) _ _ _ hgp.out.bw;go_wp2_with (fail);exact bodyPost_ret (v := .tuple #[.agg #[.int .i64 0,.int .i64 0,.slice none 0 0,.pointer none,.slice none 0 0,.slice none 0 0,.int .i64 0],.slice none 0 0,.int .i64 1]) (by simp [results,Tryz.results89,go_sem,u0,u1,u2,u3,u4,u5,u6]) rfl ⟨rfl,hfin.out⟩

set_option maxRecDepth 100000 in
set_option maxHeartbeats 2000000 in
theorem goppa_bad2 (S : Desc) (Q N : Int) (nl poly pts : List Int) (A B A1 A2 : Option Addr) (c b c1 c2 : Nat) (w : World) (hr : Rd w w.heap.size A (modL S)) (hS : Good S.p S.m (modL S)) (hQ : I64 Q) (hN : I64 N) (hl : nl.length ≤ maxLen) (hrB : Rd w w.heap.size B nl) (hb : ¬ Good Q N nl) :
  Calls Tryz.prog 89 #[.agg #[.int .i64 S.p,.int .i64 S.m,.slice A S.mod.length c,.int .i64 Q,.int .i64 N,.slice B nl.length b,.slice A1 poly.length c1,.slice A2 pts.length c2]] w fun e w' => e = .returned (.tuple #[.agg #[.int .i64 0,.int .i64 0,.slice none 0 0,.pointer none,.slice none 0 0,.slice none 0 0,.int .i64 0],.slice none 0 0,.int .i64 1]) ∧ Below w.heap.size w w' := by
 have hCk := fCheck_D S A c;rw [chk_yes hS] at hCk;have hNw := fun W a => Lib.hid (New_no Q N nl B b W hQ.2 hN.2 hl a hb)
 obtain ⟨s,hs⟩ : ∃ s,s = w.heap.size := ⟨_,rfl⟩;obtain ⟨Z,hZ⟩ : ∃ Z,Z = ((w.alloc (.cells #[.int .i64 S.p,.int .i64 S.m,.slice A S.mod.length c,.int .i64 Q,.int .i64 N,.slice B nl.length b,.slice A1 poly.length c1,.slice A2 pts.length c2] 44)).alloc (.cells #[.int .i64 0,.int .i64 0,.slice none 0 0,.pointer none,.slice none 0 0,.slice none 0 0,.int .i64 0] 130)).alloc (.cells #[.int .i64 0,.int .i64 0,.slice none 0 0,.pointer none,.slice none 0 0,.slice none 0 0,.int .i64 0] 130) := ⟨_,rfl⟩;have hgp : Hid (GP w s (#[.int .i64 S.p,.int .i64 S.m,.slice A S.mod.length c,.int .i64 Q,.int .i64 N,.slice B nl.length b,.slice A1 poly.length c1,.slice A2 pts.length c2]).toList Z.heap.size Z) := by
  rw [hZ,hs];exact Lib.hid (gp_new w _ _ _)
 have hq := Lib.hid (hCk Z ((hr.below hgp.out.bw).more hgp.out.wB));replace hZ := Lib.hid hZ;clear hCk hQ hN hl hb hS;go_enter Tryz.func89,Tryz.ntmps89;obtain ⟨a0,a1,a2,a3,a4,a5,a6,a7⟩ := Bxs.c8 hgp.out.G;go_wp2_with (fail);rw [← hZ.out];simp only [← hs];have hsw : w.heap.size ≤ s := Nat.le_of_eq hs.symm;replace hs := Lib.hid hs;go_wp2_with (fail);(with_reducible refine hq.out.mono ?_);rintro e w1 ⟨rfl,hb⟩;clear hq a0 a1 a2 a3 a4 a5 a6 a7;replace hgp := Lib.hid ((hgp.out.below hb).more hb.size);clear hb;have hq := hNw w1 ((hrB.below hgp.out.bw).more hgp.out.wB);obtain ⟨a0,a1,a2,a3,a4,a5,a6,a7⟩ := Bxs.c8 hgp.out.G;go_wp2_with (fail);(with_reducible refine hq.out.mono ?_);rintro e w2 ⟨rfl,hb⟩;clear hq a0 a1 a2 a3 a4 a5 a6 a7;replace hgp := Lib.hid ((hgp.out.below hb).more hb.size);clear hb;obtain ⟨u0,u1,u2,u3,u4,u5,u6⟩ := hgp.out.R.c7;obtain ⟨v0,v1,v2,v3,v4,v5,v6⟩ := hgp.out.R.f7;obtain ⟨z0,z1,z2,z3,z4,z5,z6⟩ := hgp.out.Z.c7;have hfin : Hid (Below w.heap.size w (stAll w2 (s + 1) 0 [.int .i64 0,.int .i64 0,.slice none 0 0,.pointer none,.slice none 0 0,.slice none 0 0,.int .i64 0])) := stAll_below (by omega) _ _ _ hgp.out.bw;go_wp2_with (fail);exact bodyPost_ret (v := .tuple #[.agg #[.int .i64 0,.int .i64 0,.slice none 0 0,.pointer none,.slice none 0 0,.slice none 0 0,.int .i64 0],.slice none 0 0,.int .i64 1]) (by simp [results,Tryz.results89,go_sem,u0,u1,u2,u3,u4,u5,u6]) rfl ⟨rfl,hfin.out⟩

set_option maxRecDepth 100000 in
set_option maxHeartbeats 2000000 in
theorem GopChk_bad1 (P M : Int) (ml : List Int) (Q N : Int) (nl poly pts : List Int) (A B A1 A2 : Option Addr) (c b c1 c2 : Nat) (w : World) (hP : I64 P) (hM : I64 M) (hl : ml.length ≤ maxLen) (hr : Rd w w.heap.size A ml) (hb : ¬ Good P M ml) :
  Calls Tryz.prog 26 #[.agg #[.int .i64 P,.int .i64 M,.slice A ml.length c,.int .i64 Q,.int .i64 N,.slice B nl.length b,.slice A1 poly.length c1,.slice A2 pts.length c2]] w fun e w' => e = .returned (.int .i64 1) ∧ Below w.heap.size w w' := by
 have hCk := fun W h => Check_any P M ml A c W hP.2 hM.2 hl h
 rw [chk_no hb] at hCk;obtain ⟨s,hs⟩ : ∃ s,s = w.heap.size := ⟨_,rfl⟩;obtain ⟨Z,hZ⟩ : ∃ Z,Z = w.alloc (.cells #[.int .i64 P,.int .i64 M,.slice A ml.length c,.int .i64 Q,.int .i64 N,.slice B nl.length b,.slice A1 poly.length c1,.slice A2 pts.length c2] 44) := ⟨_,rfl⟩;have hB : Below w.heap.size w Z := by rw [hZ]; exact (Below.refl _ _).alloc (Nat.le_refl _) _
 have hG : Hid (Bxs Z s (#[.int .i64 P,.int .i64 M,.slice A ml.length c,.int .i64 Q,.int .i64 N,.slice B nl.length b,.slice A1 poly.length c1,.slice A2 pts.length c2]).toList) := by rw [hZ,hs]; exact Lib.hid (Bxs.new w _ _)
 have hsZ : s < Z.heap.size := by rw [hZ,hs]; simp
 have hq := Lib.hid (hCk Z ((hr.below hB).more hB.size));replace hZ := Lib.hid hZ;clear hCk hP hM hl hb;go_enter Tryz.func26,Tryz.ntmps26;obtain ⟨a0,a1,a2,a3,a4,a5,a6,a7⟩ := Bxs.c8 hG.out;go_wp2_with (fail);rw [← hZ.out];simp only [← hs];have hsw : w.heap.size ≤ s := Nat.le_of_eq hs.symm;replace hs := Lib.hid hs;go_wp2_with (fail);(with_reducible refine hq.out.mono ?_);rintro e w1 ⟨rfl,hb⟩;clear hq a0 a1 a2 a3 a4 a5 a6 a7;replace hB := hB.trans (hb.mono hB.size);replace hG := Lib.hid (hG.out.keep hb hsZ);replace hsZ := Nat.lt_of_lt_of_le hsZ hb.size;clear hb;go_wp2_with (fail);go_ret;exact ⟨rfl,hB⟩

set_option maxRecDepth 100000 in
set_option maxHeartbeats 2000000 in
theorem GopChk_bad2 (S : Desc) (Q N : Int) (nl poly pts : List Int) (A B A1 A2 : Option Addr) (c b c1 c2 : Nat) (w : World) (hr : Rd w w.heap.size A (modL S)) (hS : Good S.p S.m (modL S)) (hQ : I64 Q) (hN : I64 N) (hl : nl.length ≤ maxLen) (hrB : Rd w w.heap.size B nl) (hb : ¬ Good Q N nl) :
  Calls Tryz.prog 26 #[.agg #[.int .i64 S.p,.int .i64 S.m,.slice A S.mod.length c,.int .i64 Q,.int .i64 N,.slice B nl.length b,.slice A1 poly.length c1,.slice A2 pts.length c2]] w fun e w' => e = .returned (.int .i64 1) ∧ Below w.heap.size w w' := by
 have hp1 := S.p256; have hp2 := S.m8;have hmlS : (modL S).length ≤ maxLen := by rw [modL_length]; have := S.hlen; rw [this]; unfold maxLen; split <;> omega
 have hCk := fun W h => Check_any S.p S.m (modL S) A c W (by omega) (by omega) hmlS h
 rw [chk_yes hS,modL_length] at hCk;have hCk2 := fun W h => Check_any Q N nl B b W hQ.2 hN.2 hl h
 rw [chk_no hb] at hCk2;replace hCk2 := fun W h => Lib.hid (hCk2 W h)
 obtain ⟨s,hs⟩ : ∃ s,s = w.heap.size := ⟨_,rfl⟩;obtain ⟨Z,hZ⟩ : ∃ Z,Z = w.alloc (.cells #[.int .i64 S.p,.int .i64 S.m,.slice A S.mod.length c,.int .i64 Q,.int .i64 N,.slice B nl.length b,.slice A1 poly.length c1,.slice A2 pts.length c2] 44) := ⟨_,rfl⟩;have hB : Below w.heap.size w Z := by rw [hZ]; exact (Below.refl _ _).alloc (Nat.le_refl _) _
 have hG : Hid (Bxs Z s (#[.int .i64 S.p,.int .i64 S.m,.slice A S.mod.length c,.int .i64 Q,.int .i64 N,.slice B nl.length b,.slice A1 poly.length c1,.slice A2 pts.length c2]).toList) := by rw [hZ,hs]; exact Lib.hid (Bxs.new w _ _)
 have hsZ : s < Z.heap.size := by rw [hZ,hs]; simp
 have hq := Lib.hid (hCk Z ((hr.below hB).more hB.size));replace hZ := Lib.hid hZ;clear hCk hQ hN hl hb hS hmlS;go_enter Tryz.func26,Tryz.ntmps26;obtain ⟨a0,a1,a2,a3,a4,a5,a6,a7⟩ := Bxs.c8 hG.out;go_wp2_with (fail);rw [← hZ.out];simp only [← hs];have hsw : w.heap.size ≤ s := Nat.le_of_eq hs.symm;replace hs := Lib.hid hs;go_wp2_with (fail);(with_reducible refine hq.out.mono ?_);rintro e w1 ⟨rfl,hb⟩;clear hq a0 a1 a2 a3 a4 a5 a6 a7;replace hB := hB.trans (hb.mono hB.size);replace hG := Lib.hid (hG.out.keep hb hsZ);replace hsZ := Nat.lt_of_lt_of_le hsZ hb.size;clear hb;have hq := hCk2 w1 ((hrB.below hB).more hB.size);obtain ⟨a0,a1,a2,a3,a4,a5,a6,a7⟩ := Bxs.c8 hG.out;go_wp2_with (fail);(with_reducible refine hq.out.mono ?_);rintro e w2 ⟨rfl,hb⟩;clear hq a0 a1 a2 a3 a4 a5 a6 a7;replace hB := hB.trans (hb.mono hB.size);clear hb;go_wp2_with (fail);go_ret;exact ⟨rfl,hB⟩

end
section
open Go.RowKit Cw
attribute [local go_sem] Oper.semAt_some

theorem rd_lit19 (W : World) (l : List Int) : Rd (W.alloc (.cells (l.map (Value.int .i64)).toArray 3)) (W.heap.size + 1) (some ⟨W.heap.size,0,none⟩) l := by
 have h := rd_new W l;rw [World.size_alloc] at h;exact h
theorem gop19 : gopD D2 E2_3 [1,1,1] pts19 = 0 := by decide +kernel
theorem sqf19 : SqfP D2 E2_3 [1,1,1] := ⟨⟨rfl,rfl⟩,by
 obtain ⟨F,hF⟩ := good_FD good8;have h := cop19 hF;rw [hF] at h;exact h⟩
theorem des19 : desN D2 E2_3 [1,1,1] = 5 := by rw [desN_yes sqf19]; decide
set_option maxRecDepth 100000 in
set_option maxHeartbeats 8000000 in
theorem alive19_any (w : World) : Calls Tryz.prog 23 #[] w fun e w' => e = .returned (.bool true) ∧ Below w.heap.size w w' := by
 obtain ⟨S,hS⟩ := good_FD good2;have e1 : (S.p : Int) = 2 := by rw [hS]; rfl
 have e2 : (S.m : Int) = 1 := by rw [hS]; rfl
 have e3 : S.mod.length = 0 := by rw [hS]; rfl
 have hgS : Good S.p S.m (modL S.toDesc) := by rw [hS]; exact good2
 have hzS : gopD S.toDesc E2_3 [1,1,1] pts19 = 0 := by rw [hS]; exact gop19
 obtain ⟨s,hs⟩ : ∃ s,s = w.heap.size := ⟨_,rfl⟩;obtain ⟨Z1,hZ1⟩ : ∃ Z1,Z1 = w.alloc (.cells #[.int .i64 1,.int .i64 1,.int .i64 0] 3) := ⟨_,rfl⟩;obtain ⟨Z2,hZ2⟩ : ∃ Z2,Z2 = Z1.alloc (.cells #[.int .i64 1,.int .i64 1,.int .i64 1] 3) := ⟨_,rfl⟩;obtain ⟨Z3,hZ3⟩ : ∃ Z3,Z3 = Z2.alloc (.cells #[.int .i64 0,.int .i64 1,.int .i64 2,.int .i64 3,.int .i64 4,.int .i64 5,.int .i64 6,.int .i64 7] 3) := ⟨_,rfl⟩;obtain ⟨Z4,hZ4⟩ : ∃ Z4,Z4 = Z3.alloc (.cells #[.int .i64 2,.int .i64 1,.slice none 0 0,.int .i64 2,.int .i64 3,.slice (some ⟨s,0,none⟩) 3 3,.slice (some ⟨s + 1,0,none⟩) 3 3,.slice (some ⟨s + 1 + 1,0,none⟩) 8 8] 44) := ⟨_,rfl⟩;have z1 : Z1.heap.size = s + 1 := by rw [hZ1,hs]; simp
 have z2 : Z2.heap.size = s + 2 := by rw [hZ2]; simp [z1]
 have z3 : Z3.heap.size = s + 3 := by rw [hZ3]; simp [z2]
 have z4 : Z4.heap.size = s + 4 := by rw [hZ4]; simp [z3]
 have b1 : Below s w Z1 := by rw [hZ1]; exact (Below.refl _ _).alloc (Nat.le_of_eq hs) _
 have b2 : Below (s + 1) Z1 Z2 := by rw [hZ2]; exact (Below.refl _ _).alloc (Nat.le_of_eq z1.symm) _
 have b3 : Below (s + 2) Z2 Z3 := by rw [hZ3]; exact (Below.refl _ _).alloc (Nat.le_of_eq z2.symm) _
 have b4 : Below (s + 3) Z3 Z4 := by rw [hZ4]; exact (Below.refl _ _).alloc (Nat.le_of_eq z3.symm) _
 have r1 : Rd Z1 (s + 1) (some ⟨s,0,none⟩) [1,1,0] := by have h := rd_lit19 w [1,1,0]; rw [hZ1,hs]; exact h
 have r2 : Rd Z2 (s + 2) (some ⟨s + 1,0,none⟩) [1,1,1] := by have h := rd_lit19 Z1 [1,1,1]; rw [z1] at h; rw [hZ2]; exact h
 have r3 : Rd Z3 (s + 3) (some ⟨s + 1 + 1,0,none⟩) pts19 := by have h := rd_lit19 Z2 pts19; rw [z2] at h; rw [hZ3]; exact h
 have c34 := b4;have c24 := b3.trans (c34.mono (show s + 2 ≤ s + 3 by omega));have c14 := b2.trans (c24.mono (show s + 1 ≤ s + 2 by omega));have hB : Below s w Z4 := b1.trans (c14.mono (show s ≤ s + 1 by omega));have hmod : modL E2_3 = [1,1,0] := by decide
 have rr1 : Rd Z4 Z4.heap.size (some ⟨s,0,none⟩) [1,1,0] := by rw [z4]; exact (r1.below c14).more (by omega)
 have rr2 : Rd Z4 Z4.heap.size (some ⟨s + 1,0,none⟩) [1,1,1] := by rw [z4]; exact (r2.below c24).more (by omega)
 have rr3 : Rd Z4 Z4.heap.size (some ⟨s + 1 + 1,0,none⟩) pts19 := by rw [z4]; exact (r3.below c34).more (by omega)
 have hbG : Hid (Bxs Z4 (s + 1 + 1 + 1) [.int .i64 2,.int .i64 1,.slice none 0 0,.int .i64 2,.int .i64 3,.slice (some ⟨s,0,none⟩) 3 3,.slice (some ⟨s + 1,0,none⟩) 3 3,.slice (some ⟨s + 1 + 1,0,none⟩) 8 8]) := by have h := Bxs.new Z3 [.int .i64 2,.int .i64 1,.slice none 0 0,.int .i64 2,.int .i64 3,.slice (some ⟨s,0,none⟩) 3 3,.slice (some ⟨s + 1,0,none⟩) 3 3,.slice (some ⟨s + 1 + 1,0,none⟩) 8 8] 44; rw [z3] at h; rw [hZ4]; exact h
 have hC : ∀ W,Below Z4.heap.size Z4 W → Calls Tryz.prog 34 #[.agg #[.int .i64 2,.int .i64 1,.slice none 0 0,.int .i64 2,.int .i64 3,.slice (some ⟨s,0,none⟩) 3 3,.slice (some ⟨s + 1,0,none⟩) 3 3,.slice (some ⟨s + 1 + 1,0,none⟩) 8 8]] W (GCPost S E2_3 [1,1,1] pts19 W) := fun W hb => by
  have h := aGopCode_ok S E2_3 [1,1,1] pts19 none (some ⟨s,0,none⟩) (some ⟨s + 1,0,none⟩) (some ⟨s + 1 + 1,0,none⟩) 0 3 3 8 W (by rw [hS]; exact Rd.nil) (by rw [hmod]; exact (rr1.below hb).more hb.size) hgS good8 ((rr2.below hb).more hb.size) ((rr3.below hb).more hb.size) hzS;rw [e1,e2,e3] at h;exact h
 have hDz : ∀ W,Below Z4.heap.size Z4 W → Calls Tryz.prog 88 #[.agg #[.int .i64 2,.int .i64 1,.slice none 0 0,.int .i64 2,.int .i64 3,.slice (some ⟨s,0,none⟩) 3 3,.slice (some ⟨s + 1,0,none⟩) 3 3,.slice (some ⟨s + 1 + 1,0,none⟩) 8 8]] W fun e w' => e = .returned (.tuple #[.int .i64 5,.int .i64 0]) ∧ Below W.heap.size W w' := fun W hb => by
  have h := aGopDes_ok S E2_3 [1,1,1] pts19 none (some ⟨s,0,none⟩) (some ⟨s + 1,0,none⟩) (some ⟨s + 1 + 1,0,none⟩) 0 3 3 8 W (by rw [hS]; exact Rd.nil) (by rw [hmod]; exact (rr1.below hb).more hb.size) hgS good8 ((rr2.below hb).more hb.size) ((rr3.below hb).more hb.size) hzS;rw [e1,e2,e3,hS,des19] at h;exact h
 have hq := Lib.hid (hC Z4 (Below.refl _ _));replace hDz := fun W hb => Lib.hid (hDz W hb)
 clear hC rr1 rr2 rr3 r1 r2 r3 c34 c24 c14 b1 b2 b3 b4 z1 z2 z3;replace e1 := Lib.hid e1;replace e2 := Lib.hid e2;replace e3 := Lib.hid e3;go_enter Tryz.func23,Tryz.ntmps23;obtain ⟨a0,a1,a2,a3,a4,a5,a6,a7⟩ := hbG.out.c8;go_wp2_with (fail);rw [← hZ1,← hZ2,← hZ3];simp only [← hs];rw [← hZ4];have hsw : w.heap.size = s := hs.symm;replace hs := Lib.hid hs;replace hZ1 := Lib.hid hZ1;replace hZ2 := Lib.hid hZ2;replace hZ3 := Lib.hid hZ3;replace hZ4 := Lib.hid hZ4;replace hsw := Lib.hid hsw;(with_reducible refine hq.out.mono ?_);rintro e w1 ⟨F,rt,hF,-,k,C,A3,c3,Al,rfl,hvc,hsp,-,-,-,-,hb1⟩;obtain rfl : k = 2 := alv_k hS hF hvc.can (fun u => hsp u);clear hq hvc hsp a0 a1 a2 a3 a4 a5 a6 a7;rw [show pts19.length = 8 from rfl,e1.out,e2.out,e3.out];obtain ⟨Y,hY⟩ : ∃ Y,Y = w1.alloc (.cells #[.int .i64 2,.int .i64 1,.slice A3 0 c3,.int .i64 8,.slice Al 2 2] 27) := ⟨_,rfl⟩;have hbY : Below w1.heap.size w1 Y := by rw [hY]; exact (Below.refl _ _).alloc (Nat.le_refl _) _
 have hbZY := hb1.trans (hbY.mono hb1.size);have hq2 := hDz Y hbZY;have hbC : Hid (Bxs Y w1.heap.size [.int .i64 2,.int .i64 1,.slice A3 0 c3,.int .i64 8,.slice Al 2 2]) := by rw [hY]; exact Bxs.new w1 _ _
 have hYl : w1.heap.size < Y.heap.size := by rw [hY]; simp
 obtain ⟨a0,a1,a2,a3,a4,a5,a6,a7⟩ := (hbG.out.keep hbZY (by have := z4; omega)).c8;rw [hY] at a0 a1 a2 a3 a4 a5 a6 a7;obtain ⟨pc,hpc⟩ : ∃ pc,pc = w1.heap.size := ⟨_,rfl⟩;rw [← hpc] at hbC hYl;replace hY := Lib.hid hY;go_wp2_with (fail);rw [← hY.out];simp only [← hpc];replace hpc := Lib.hid hpc;(with_reducible refine hq2.out.mono ?_);rintro e w2 ⟨rfl,hb2⟩;obtain ⟨c0,c1,c2,c3',c4⟩ := (hbC.out.keep hb2 hYl).c5;clear a0 a1 a2 a3 a4 a5 a6 a7 hq2 hDz;have hfin : Hid (Below w.heap.size w w2) := by
  rw [Hid,hsw.out];exact hB.trans ((hbZY.trans (hb2.mono hbZY.size)).mono (by have := z4; omega))
 go_wp2_with (fail);go_ret;exact ⟨rfl,hfin.out⟩

end
section
open Go.RowKit Cw
open Cw.CField (inv)
section
variable {S F : FD} {r : R F.toDesc} {N t k : Nat} {h : Nat → Nat → R F.toDesc} {u : Nat → R S.toDesc}
end
section
variable {S F : FD} {r : R F.toDesc} {N t : Nat} {poly pts : List Int} {u : Nat → R S.toDesc}
theorem gop_gsum (F : FD) (poly pts : List Int) (N : Nat) (v : Nat → R F.toDesc) (i : Nat) : gsum (plI F.toDesc poly) ((List.range N).map fun j => (eli F.toDesc (pts[j]?.getD 0),v j)) i = rsum N fun j => gopM F poly pts i j * v j := by
 unfold gsum;rw [lsum_map,lsum_range];refine rsum_congr fun j _ => ?_
 dsimp only;rw [plI_ev];unfold gopM
 ac_rfl
theorem meets_square (hq : S.q = 2) (hp : S.p = F.p) {n : Nat} (hl : poly.length = n + 1) (h0 : cfR F.toDesc poly n ≠ 0) (hs : Cop (plI F.toDesc poly) (plI F.toDesc poly).D) (hz : ∀ j,j < N → pevI F.toDesc poly (eli F.toDesc (pts[j]?.getD 0)) ≠ 0)
  (hm : Meets S F r N n (gopM F poly pts) u) : Meets S F r N (n + n) (fun i j => inv (pevI F.toDesc poly (eli F.toDesc (pts[j]?.getD 0)) * pevI F.toDesc poly (eli F.toDesc (pts[j]?.getD 0))) * pw (eli F.toDesc (pts[j]?.getD 0)) i) u := by
 have hp2 : S.p = 2 := by
  have h1 := S.toDesc.p2;have h2 : S.p ^ 1 ≤ S.p ^ S.m := Nat.pow_le_pow_right (by omega) S.m1;rw [Nat.pow_one] at h2;have h3 : S.p ^ S.m = 2 := hq;omega
 have hc : nsm 2 (1 : R F.toDesc) = 0 := by rw [← hp2,hp]; exact char_R
 have key := gsum_square hc (g := plI F.toDesc poly) (n := n) (fun t ht => cfR_out _ (by omega)) h0 hs ((List.range N).map fun j => (eli F.toDesc (pts[j]?.getD 0),phi S F r (u j)))
  (fun a ha => by
   obtain ⟨j,hj,rfl⟩ := List.mem_map.1 ha;rw [plI_ev];exact hz j (List.mem_range.1 hj))
  (fun a ha => by
   obtain ⟨j,hj,rfl⟩ := List.mem_map.1 ha;have h1 : rcode (u j) < 2 := by rw [← hq]; exact rcode_lt (u j)
   have h2 : rcode (u j) = 0 ∨ rcode (u j) = 1 := by omega
   rcases h2 with e | e
   ·left
    show phi S F r (u j) = 0
    rw [show u j = 0 from rcode_inj (e.trans rcode_zero.symm),phi_zero]
   ·right
    show phi S F r (u j) = 1
    rw [show u j = 1 from rcode_inj (e.trans rcode_one.symm),phi_one])
  (fun i hi => by rw [gop_gsum]; exact hm i hi)
 intro i hi;have h1 := key i hi;unfold gsum at h1;rw [lsum_map,lsum_range] at h1;rw [← h1];refine rsum_congr fun j _ => ?_
 dsimp only;rw [ev_mul,plI_ev]
 ac_rfl
end
end
section
open Go.RowKit Cw

section
variable {S F : FD} {r : R F.toDesc} {poly pts : List Int} {u : Nat → R S.toDesc}
theorem gop_facts {S' : Desc} (hz : gopD S' F.toDesc poly pts = 0) : ∃ n,poly.length = n + 1 ∧ cfR F.toDesc poly n ≠ 0 ∧ (∀ j,j < pts.length → pevI F.toDesc poly (eli F.toDesc (pts[j]?.getD 0)) ≠ 0) ∧ ∀ i j,i < pts.length → j < pts.length → eli F.toDesc (pts[i]?.getD 0) = eli F.toDesc (pts[j]?.getD 0) → i = j := by
 obtain ⟨-,-,hp1,hp2,htw,hl2,-,htop,hroot⟩ := gopD_zero hz;obtain ⟨n,hn⟩ : ∃ n,poly.length = n + 1 := ⟨poly.length - 1,by omega⟩;refine ⟨n,hn,?_,fun j hj e => hroot ?_,pts_inj hp1 htw⟩
 ·rw [hn,Nat.add_sub_cancel] at htop;exact eli_ne (elB_iff.1 hp2 n (by omega)) htop
 ·have h9 : (valL F.toDesc poly pts)[j]?.getD 0 = 0 := by unfold valL; rw [lst_get _ hj,e,ci_zero]
  rw [← h9];exact mem_get (by unfold valL; rw [lst_length]; exact hj)
theorem meets_rat {n N : Nat} (hl : poly.length = n + 1) (h0 : cfR F.toDesc poly n ≠ 0) (hz : ∀ j,j < N → pevI F.toDesc poly (eli F.toDesc (pts[j]?.getD 0)) ≠ 0) :
  Meets S F r N n (gopM F poly pts) u ↔ (plI F.toDesc poly).dvd (nP ((List.range N).map fun j => (eli F.toDesc (pts[j]?.getD 0),phi S F r (u j)))) := by
 rw [rat_iff (g := plI F.toDesc poly) (n := n) (fun t ht => cfR_out _ (by omega)) h0 _ fun a ha => by
  obtain ⟨j,hj,rfl⟩ := List.mem_map.1 ha;rw [plI_ev];exact hz j (List.mem_range.1 hj)]
 constructor
 ·intro h i hi; rw [gop_gsum]; exact h i hi
 ·intro h i hi; have := h i hi; rw [gop_gsum] at this; exact this
theorem meets_nested {p2 : List Int} {n m N : Nat} (hl : poly.length = n + 1) (h0 : cfR F.toDesc poly n ≠ 0) (hz : ∀ j,j < N → pevI F.toDesc poly (eli F.toDesc (pts[j]?.getD 0)) ≠ 0) (hl2 : p2.length = m + 1) (h02 : cfR F.toDesc p2 m ≠ 0) (hz2 : ∀ j,j < N → pevI F.toDesc p2 (eli F.toDesc (pts[j]?.getD 0)) ≠ 0)
  (hd : (plI F.toDesc poly).dvd (plI F.toDesc p2)) (h : Meets S F r N m (gopM F p2 pts) u) : Meets S F r N n (gopM F poly pts) u :=
 (meets_rat hl h0 hz).2 (hd.trans ((meets_rat hl2 h02 hz2).1 h))
end
theorem meets_two {S F F2 : FD} (h : F2.toDesc = F.toDesc) {rt rt2 : Nat} (h1 : IsRt S F rt) (h2 : IsRt S F2 rt2) {N t : Nat} {p pts : List Int} {u : Nat → R S.toDesc} (hm : Meets S F2 (rel F2.toDesc rt2) N t (gopM F2 p pts) u) : Meets S F (rel F.toDesc rt) N t (gopM F p pts) u := by
 obtain ⟨D,g,a,b,c⟩ := F;obtain ⟨D2,g2,a2,b2,c2⟩ := F2;have h' : D2 = D := h;subst h';have e : rt2 = rt := IsRt.uniq (S := S) (F := ⟨D2,g2,a2,b2,c2⟩) h2 h1;subst e;exact hm
theorem plI_mulI (D : Desc) (p q : List Int) : plI D (mulI D p q) = plI D p * plI D q := Pl.ext' fun t => congrFun (cfR_mulI D p q) t
end
section
open Go.RowKit Cw
open Cw.CField (inv)
attribute [local go_sem] Oper.semAt_some

def mulK (D : Desc) (p q : List Int) : Nat → List Int
 | 0 => [1]
 | 1 => prodL D [1] p
 | _ + 2 => prodL D (prodL D [1] p) q
theorem mulK_le (D : Desc) (p q : List Int) (k : Nat) : (mulK D p q k).length ≤ p.length + q.length + 1 := by
 have h1 := prodL_le D [1] p;have h2 := prodL_le D (prodL D [1] p) q
 match k with
 | 0 => simp [mulK]
 | 1 => simp [mulK] at *; omega
 | k + 2 => simp [mulK] at *; omega
set_option maxHeartbeats 2000000 in
theorem gMul2_any (F : FD) (p q : List Int) (A1 A2 : Option Addr) (c1 c2 g b : Nat) (w : World) (hg : GF w w.heap.size g F) (hr1 : Rd w w.heap.size A1 p) (hr2 : Rd w w.heap.size A2 q) (hl1 : p.length ≤ 9000) (hl2 : q.length ≤ 9000) (hb : b < w.heap.size) (hb0 : w.cell? ⟨b,0,none⟩ = some (.slice A1 p.length c1)) (hb1 : w.cell? ⟨b,1,none⟩ = some (.slice A2 q.length c2)) :
  Calls Tryz.prog 101 #[.pointer (some ⟨g,0,none⟩),.slice (some ⟨b,0,none⟩) 2 2] w (GivesR (prodL F.toDesc (prodL F.toDesc [1] p) q) w) := by
 have hP1 := fun A c W a d e f h => gProd_any F (mulK F.toDesc p q 0) p A A1 c c1 g W a d e f h
 have hP2 := fun A c W a d e f h => gProd_any F (mulK F.toDesc p q 1) q A A2 c c2 g W a d e f h
 rw [show prodL F.toDesc (mulK F.toDesc p q 0) p = mulK F.toDesc p q 1 from rfl] at hP1;rw [show prodL F.toDesc (mulK F.toDesc p q 1) q = mulK F.toDesc p q 2 from rfl] at hP2;rw [show prodL F.toDesc (prodL F.toDesc [1] p) q = mulK F.toDesc p q 2 from rfl];have hle := mulK_le F.toDesc p q;obtain ⟨Y,hY⟩ : ∃ Y,Y = w.alloc (.cells #[.int .i64 1] 3) := ⟨_,rfl⟩;have hB : Below w.heap.size w Y := by rw [hY]; exact (Below.refl _ _).alloc (Nat.le_refl _) _
 have hrd : Rd Y Y.heap.size (some ⟨w.heap.size,0,none⟩) (mulK F.toDesc p q 0) := by rw [hY]; exact (IB.new w [1]).rd
 have h01 : (mulK F.toDesc p q 0).length = 1 := rfl;have hmx : (mulK F.toDesc p q 2).length ≤ maxLen := by have := hle 2; unfold maxLen; omega
 generalize mulK F.toDesc p q = X at *;replace hY := Lib.hid hY;unfold GivesR at *;replace hP1 := fun A c W a d e f h => Lib.hid (hP1 A c W a d e f h)
 replace hP2 := fun A c W a d e f h => Lib.hid (hP2 A c W a d e f h)
 go_enter Tryz.func101,Tryz.ntmps101;go_wp2_with (fail);rw [← hY.out];go_loopw [11,5] (fun i v wr => ∃ k : Nat,k ≤ 2 ∧ i = .int .i64 k ∧ (∃ A' c',v = .slice A' (X k).length c' ∧ Rd wr wr.heap.size A' (X k) ∧ (X k).length ≤ c' ∧ c' ≤ maxLen ∧ (∀ a,A' = some a → w.heap.size ≤ a.block)) ∧ Below w.heap.size w wr) (fun i _ _ => 2 - (intOf i).toNat)
 case atStart => exact ⟨0,by omega,rfl,⟨_,_,by rw [h01],hrd,by rw [h01]; exact Nat.le_refl _,by unfold maxLen; omega,fun a e => by cases e; exact Nat.le_refl _⟩,hB⟩
 case round =>
  clear hrd hB hY;obtain ⟨w2,rfl⟩ : ∃ w2 : World,w2 = wr := ⟨_,rfl⟩;obtain ⟨k,hk,rfl,⟨A',c',rfl,hrd,hc1,hc2,hA'⟩,hbw⟩ := hrel;have hg2 := (hg.below hbw).more hbw.size;have hx0 := (hbw.cell (p := ⟨b,0,none⟩) hb).trans hb0;have hx1 := (hbw.cell (p := ⟨b,1,none⟩) hb).trans hb1;have hlk := hle k;rcases (show k = 0 ∨ k = 1 ∨ k = 2 by omega) with rfl | rfl | rfl
  ·have hM := hP1 A' c' w2 hg2 hrd ((hr1.below hbw).more hbw.size) (by omega) (by omega);clear hb0 hb1 h01;go_wp2_with (fail);(with_reducible refine hM.out.mono ?_);rintro e w4 ⟨A4,c4,rfl,hr4,hc4,hc4',hA4,hb4⟩;go_wp2_with (fail);go_roundw
   case rel => exact ⟨1,by omega,by go_num,⟨_,_,rfl,hr4,hc4,hc4',fun a e => Nat.le_trans hbw.size (hA4 a e)⟩,hbw.trans (hb4.mono hbw.size)⟩
   case measure => simp [intOf]
  ·have hM := hP2 A' c' w2 hg2 hrd ((hr2.below hbw).more hbw.size) (by omega) (by omega);clear hb0 hb1 h01;go_wp2_with (fail);(with_reducible refine hM.out.mono ?_);rintro e w4 ⟨A4,c4,rfl,hr4,hc4,hc4',hA4,hb4⟩;go_wp2_with (fail);go_roundw
   case rel => exact ⟨2,by omega,by go_num,⟨_,_,rfl,hr4,hc4,hc4',fun a e => Nat.le_trans hbw.size (hA4 a e)⟩,hbw.trans (hb4.mono hbw.size)⟩
   case measure => simp [intOf]
  ·clear hb0 hb1 h01;go_wp2_with (fail);go_ret;exact ⟨A',c',rfl,hrd,hc1,hc2,hA',hbw⟩
end
section
open Go.RowKit Cw
attribute [local go_sem] Oper.semAt_some

theorem canI_len (D : Desc) {p : List Int} {n : Nat} (hl : p.length = n + 1) (h : cfR D p n ≠ 0) : (canI D p).length = n + 1 := by
 unfold canI;rw [canL_length,hl,cdeg_no (f := cfI D p) (n := n) (fun e => h (ci_eq_zero.1 e))]
end
section
open Go.RowKit Cw
attribute [local go_sem] Oper.semAt_some

set_option maxHeartbeats 1000000 in
theorem few19_any (A : Option Addr) (n c : Nat) (w : World) : Calls Tryz.prog 24 #[.slice A n c] w fun e w' => e = .returned (.bool (decide ((n : Int) ≤ 20))) ∧ w = w' := by
 go_enter Tryz.func24,Tryz.ntmps24;go_wp2_with (fail);go_ret;exact ⟨rfl,rfl⟩
end
section
open Go.RowKit Cw
open Cw.CField (inv)
attribute [local go_sem] Oper.semAt_some

theorem Gop_any (P M Q N : Int) (ml nl poly pts : List Int) (A B A1 A2 : Option Addr) (c b c1 c2 : Nat) (w : World) (hP : I64 P) (hM : I64 M) (hQ : I64 Q) (hN : I64 N) (hl : ml.length ≤ maxLen) (hn : nl.length ≤ maxLen) (hr : Rd w w.heap.size A ml) (hrB : Rd w w.heap.size B nl) (hr1 : Rd w w.heap.size A1 poly) (hr2 : Rd w w.heap.size A2 pts) (hl1 : poly.length ≤ 70000) (hl2 : pts.length ≤ maxLen) :
  ∃ E,(∀ W,Below w.heap.size w W → Calls Tryz.prog 26 #[.agg #[.int .i64 P,.int .i64 M,.slice A ml.length c,.int .i64 Q,.int .i64 N,.slice B nl.length b,.slice A1 poly.length c1,.slice A2 pts.length c2]] W fun e w' => e = .returned (.int .i64 E) ∧ Below W.heap.size W w') ∧
   (E ≠ 0 → ∀ W,Below w.heap.size w W → Calls Tryz.prog 89 #[.agg #[.int .i64 P,.int .i64 M,.slice A ml.length c,.int .i64 Q,.int .i64 N,.slice B nl.length b,.slice A1 poly.length c1,.slice A2 pts.length c2]] W fun e w' => e = .returned (.tuple #[.agg #[.int .i64 0,.int .i64 0,.slice none 0 0,.pointer none,.slice none 0 0,.slice none 0 0,.int .i64 0],.slice none 0 0,.int .i64 E]) ∧ Below W.heap.size W w') ∧
   (E = 0 → ∃ S D : Desc,P = S.p ∧ M = S.m ∧ ml = modL S ∧ Q = D.p ∧ N = D.m ∧ nl = modL D ∧ Good S.p S.m (modL S) ∧ Good D.p D.m (modL D) ∧ gopD S D poly pts = 0) := by
 by_cases hg1 : Good P M ml
 ·by_cases hg2 : Good Q N nl
  ·obtain ⟨S,rfl,rfl,rfl,hS⟩ := id hg1;obtain ⟨D,rfl,rfl,rfl,hD⟩ := id hg2;obtain ⟨F,rfl⟩ := good_FD hg1;refine ⟨gopD F.toDesc D poly pts,fun W hb => ?_,fun hE W hb => ?_,fun h => ⟨F.toDesc,D,rfl,rfl,rfl,rfl,rfl,rfl,hg1,hg2,h⟩⟩
   ·rw [modL_length,modL_length];exact GopChk_D F.toDesc D poly pts A B A1 A2 c b c1 c2 W ((hr.below hb).more hb.size) ((hrB.below hb).more hb.size) hg1 hg2 ((hr1.below hb).more hb.size) ((hr2.below hb).more hb.size) hl1 hl2
   ·rw [modL_length,modL_length];refine (goppa_D F D poly pts A B A1 A2 c b c1 c2 W ((hr.below hb).more hb.size) ((hrB.below hb).more hb.size) hg1 hg2 ((hr1.below hb).more hb.size) ((hr2.below hb).more hb.size) (by unfold maxLen; omega) hl2).mono ?_;rintro e w' ⟨hb',⟨-,h⟩ | ⟨h,-⟩⟩
    ·exact ⟨h,hb'⟩
    ·exact absurd h hE
  ·obtain ⟨S,rfl,rfl,rfl,hS⟩ := id hg1;refine ⟨1,fun W hb => ?_,fun _ W hb => ?_,fun h => by cases h⟩
   ·rw [modL_length];exact GopChk_bad2 S Q N nl poly pts A B A1 A2 c b c1 c2 W ((hr.below hb).more hb.size) hg1 hQ hN hn ((hrB.below hb).more hb.size) hg2
   ·rw [modL_length];exact goppa_bad2 S Q N nl poly pts A B A1 A2 c b c1 c2 W ((hr.below hb).more hb.size) hg1 hQ hN hn ((hrB.below hb).more hb.size) hg2
 ·exact ⟨1,fun W hb => GopChk_bad1 P M ml Q N nl poly pts A B A1 A2 c b c1 c2 W hP hM hl ((hr.below hb).more hb.size) hg1,fun _ W hb => goppa_bad1 P M ml Q N nl poly pts A B A1 A2 c b c1 c2 W hP hM hl ((hr.below hb).more hb.size) hg1,fun h => by cases h⟩
theorem q_two {S : Desc} : S.q = 2 ↔ S.p = 2 ∧ S.m = 1 := by
 have h1 := S.p2;have h2 := S.m1
 show S.p ^ S.m = 2 ↔ _
 constructor
 ·intro h;obtain ⟨k,hk⟩ : ∃ k,S.m = k + 1 := ⟨S.m - 1,by omega⟩
  cases k with
  | zero => rw [hk,Nat.pow_succ,Nat.pow_zero,Nat.one_mul] at h; exact ⟨h,hk⟩
  | succ k =>
   have h3 : 2 ^ (k + 2) ≤ S.p ^ (k + 2) := Nat.pow_le_pow_left h1 _;have h4 : 0 < 2 ^ k := Nat.pow_pos (by decide);rw [hk] at h;rw [h,Nat.pow_succ,Nat.pow_succ] at h3;omega
 ·rintro ⟨h,e⟩;rw [h,e]
end
section
open Go.RowKit Cw
open Cw.CField (inv)

theorem prodL_can {F : FD} {p q : List Int} {n m : Nat} (hp : (canI F.toDesc p).length = n + 1) (hq : (canI F.toDesc q).length = m + 1) : canI F.toDesc (prodL F.toDesc p q) = prodL F.toDesc p q ∧ (prodL F.toDesc p q).length = n + m + 1 := by
 have e : prodL F.toDesc p q = lst (n + m + 1) fun t => ci (conv (cfR F.toDesc p) (cfR F.toDesc q) t) := by
  unfold prodL;rw [if_neg (by omega),hp,hq,show n + 1 + (m + 1) - 1 = n + m + 1 by omega]
 have hpc := canI_canI F.toDesc p;have hqc := canI_canI F.toDesc q;have h1 : cfR F.toDesc p n ≠ 0 := by have := can_lead hpc hp; rwa [cfR_canI] at this
 have h2 : cfR F.toDesc q m ≠ 0 := by have := can_lead hqc hq; rwa [cfR_canI] at this
 have htop : conv (cfR F.toDesc p) (cfR F.toDesc q) (n + m) = cfR F.toDesc p n * cfR F.toDesc q m := by
  exact conv_lead (fun t ht => cfR_canI_out F.toDesc (by omega)) fun t ht => cfR_canI_out F.toDesc (by omega)
 rw [e,lst_length];refine ⟨?_,rfl⟩;rw [canI_lst F.toDesc (fun t => conv (cfR F.toDesc p) (cfR F.toDesc q) t) (n + m + 1),canL_full (f := fun t => ci (conv (cfR F.toDesc p) (cfR F.toDesc q) t)) (n := n + m) fun h => by
  have h3 := ci_eq_zero.1 h;rw [htop] at h3;exact mul_ne_zero h1 h2 h3]
theorem canI_mul5 (D : Desc) (p q : List Int) : canI D (mulI D p q) = mulI D p q := canI_can (fun t => conv (cfR D p) (cfR D q) t) _ fun t ht => conv_high (fun s hs => cfR_out D hs) (fun s hs => cfR_out D hs) (by omega)
def sq2 (D : Desc) (p : List Int) : List Int := prodL D (prodL D [1] p) p
theorem sq2_eq {F : FD} {p : List Int} {n : Nat} (hp : p.length = n + 1) (h0 : cfR F.toDesc p n ≠ 0) : sq2 F.toDesc p = mulI F.toDesc p p ∧ (sq2 F.toDesc p).length = n + n + 1 := by
 have hl := canI_len F.toDesc hp h0;have h1 : (canI F.toDesc [1]).length = 0 + 1 := canI_len F.toDesc (p := [1]) rfl (by show eli F.toDesc 1 ≠ 0; rw [eli_one]; exact one_ne);obtain ⟨a1,a2⟩ := prodL_can h1 hl;obtain ⟨b1,b2⟩ := prodL_can (p := prodL F.toDesc [1] p) (q := p) (n := n) (m := n) (by rw [a1,a2]; omega) hl;refine ⟨can_ext b1 (canI_mul5 _ _ _) fun s => ?_,b2⟩;unfold sq2;rw [cfR_prodL,cfR_prodL,cfR_mulI];have e : conv (cfR F.toDesc [1]) (cfR F.toDesc p) = cfR F.toDesc p := funext fun t => conv_one F.toDesc _ t
 rw [e]
theorem meets_sq {S F : FD} {rt : Nat} {poly pts p2 : List Int} {u : Nat → R S.toDesc} (hz : gopD S.toDesc F.toDesc poly pts = 0) (hs : SqfP S.toDesc F.toDesc poly) (h2 : p2 = mulI F.toDesc poly poly) (hl : p2.length = poly.length - 1 + (poly.length - 1) + 1) :
  Meets S F (rel F.toDesc rt) pts.length (p2.length - 1) (gopM F p2 pts) u ↔ Meets S F (rel F.toDesc rt) pts.length (poly.length - 1) (gopM F poly pts) u := by
 obtain ⟨n,h1,h0,h3,-⟩ := gop_facts hz;obtain ⟨hfit,-⟩ := gopD_zero hz;have hp := (fitB_iff.1 hfit).1;have hn : poly.length - 1 = n := by omega
 rw [hn] at hl ⊢;have hpl : plI F.toDesc p2 = plI F.toDesc poly * plI F.toDesc poly := by rw [h2,plI_mulI]
 have hev : ∀ x,pevI F.toDesc p2 x = pevI F.toDesc poly x * pevI F.toDesc poly x := fun x => by rw [← plI_ev,hpl,ev_mul,plI_ev]
 have htop : cfR F.toDesc p2 (n + n) = cfR F.toDesc poly n * cfR F.toDesc poly n := by
  rw [h2,cfR_mulI];exact conv_lead (fun t ht => cfR_out F.toDesc (by omega)) fun t ht => cfR_out F.toDesc (by omega)
 rw [hl,Nat.add_sub_cancel];constructor
 ·intro h;exact meets_nested h1 h0 h3 hl (by rw [htop]; exact mul_ne_zero h0 h0) (fun j hj => by rw [hev]; exact mul_ne_zero (h3 j hj) (h3 j hj)) ⟨plI F.toDesc poly,hpl⟩ h
 ·intro h i hi;have hc := hs.2;rw [derI_pl] at hc;rw [← meets_square (q_two.2 hs.1) hp h1 h0 hc h3 h i hi];refine rsum_congr fun j _ => ?_
  unfold gopM;rw [hev,mul_c (pw _ _)]
theorem gop_sq {S : Desc} {F : FD} {poly pts p2 : List Int} (hz : gopD S F.toDesc poly pts = 0) (h2 : p2 = mulI F.toDesc poly poly) (hl : p2.length = poly.length - 1 + (poly.length - 1) + 1) (h64 : 2 * (poly.length - 1) ≤ 64) : gopD S F.toDesc p2 pts = 0 := by
 obtain ⟨hfit,⟨hn1,hn64⟩,hp1,hp2,htw,hl2,hl65,htop,hroot⟩ := gopD_zero hz;have hcan : canI F.toDesc p2 = p2 := by rw [h2]; exact canI_mul5 _ _ _
 have hev : ∀ x,pevI F.toDesc p2 x = pevI F.toDesc poly x * pevI F.toDesc poly x := fun x => by rw [← plI_ev,show plI F.toDesc p2 = plI F.toDesc poly * plI F.toDesc poly by rw [h2,plI_mulI],ev_mul,plI_ev]
 have hrow : p2 = rowL F.toDesc p2.length fun j => cfR F.toDesc p2 j := by
  have h3 : canI F.toDesc p2 = lst (canI F.toDesc p2).length (cfI F.toDesc p2) := by unfold canI; rw [canL_length]; rfl
  rw [hcan] at h3;exact h3
 have hel : elB F.toDesc p2 = true := by rw [hrow]; exact elB_rowL _ _ _
 refine gopD_ok hfit (by omega) (by rw [hp1,hel]; decide) htw ?_ fun hm => ?_
 ·rintro (h | h | h)
  ·omega
  ·omega
  ·have h4 := can_lead hcan (n := p2.length - 1) (by omega);apply h4;unfold cfR;rw [h,eli_zero]
 ·unfold valL at hm;obtain ⟨j,hj,e⟩ := List.mem_map.1 hm;have h5 := ci_eq_zero.1 e;rw [hev] at h5;refine hroot ?_;have hj' := List.mem_range.1 hj;have h6 : pevI F.toDesc poly (eli F.toDesc (pts[j]?.getD 0)) = 0 := Classical.byContradiction fun h => mul_ne_zero h h h5
  unfold valL;exact List.mem_map.2 ⟨j,hj,by rw [h6,ci_zero]⟩
end
end Go.Proofs.YtjdoneanohhkmaaGreat
