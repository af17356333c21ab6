/- Layer 19: the example of the chapter, and the program's Check. Layer 19 of the reference: Check of a field and a description. AlternantDimension: the law's walk. AlternantImages: the law's walk. -/
import Derived.Test.YtjdoneanohhkmaaGreatZqV04RHasD
import Derived.Test.YtjdoneanohhkmaaGreatZqV04RBxs
import Derived.Test.YtjdoneanohhkmaaGreatZqV04RGopW
import Derived.Test.YtjdoneanohhkmaaGreatZqV04RApR
import Derived.Test.YtjdoneanohhkmaaGreatZqV04RGopD
import Derived.Test.YtjdoneanohhkmaaGreatZqV04RGopR
import Derived.Test.YtjdoneanohhkmaaGreatZqV04RAltI
import Derived.Test.YtjdoneanohhkmaaGreatZqV04RAltS
import Derived.Test.YtjdoneanohhkmaaGreatZqV04RTk
namespace Go.Proofs.YtjdoneanohhkmaaGreat
section
open Go.RowKit Cw
attribute [local go_sem] Oper.semAt_some

theorem rd_lit19 (W : World) (l : List Int) : Rd (W.alloc (.cells (l.map (Value.int .i64)).toArray 3)) (W.heap.size + 1) (some ⟨W.heap.size,0,none⟩) l := by
 have h := rd_new W l;rw [World.size_alloc] at h;exact h
theorem gop19 : gopD D2 E2_3 [1,1,1] pts19 = 0 := by decide +kernel
theorem sqf19 : SqfP D2 E2_3 [1,1,1] := ⟨⟨rfl,rfl⟩,by
 obtain ⟨F,hF⟩ := good_FD good8;have h := cop19 hF;rw [hF] at h;exact h⟩
theorem des19 : desN D2 E2_3 [1,1,1] = 5 := by rw [desN_yes sqf19]; decide
set_option maxRecDepth 100000 in
set_option maxHeartbeats 8000000 in
theorem alive19_any (w : World) : Calls Tryz.prog 23 #[] w fun e w' => e = .returned (.bool true) ∧ Below w.heap.size w w' := by
 obtain ⟨S,hS⟩ := good_FD good2;have e1 : (S.p : Int) = 2 := by rw [hS]; rfl
 have e2 : (S.m : Int) = 1 := by rw [hS]; rfl
 have e3 : S.mod.length = 0 := by rw [hS]; rfl
 have hgS : Good S.p S.m (modL S.toDesc) := by rw [hS]; exact good2
 have hzS : gopD S.toDesc E2_3 [1,1,1] pts19 = 0 := by rw [hS]; exact gop19
 obtain ⟨s,hs⟩ : ∃ s,s = w.heap.size := ⟨_,rfl⟩;obtain ⟨Z1,hZ1⟩ : ∃ Z1,Z1 = w.alloc (.cells #[.int .i64 1,.int .i64 1,.int .i64 0] 3) := ⟨_,rfl⟩;obtain ⟨Z2,hZ2⟩ : ∃ Z2,Z2 = Z1.alloc (.cells #[.int .i64 1,.int .i64 1,.int .i64 1] 3) := ⟨_,rfl⟩;obtain ⟨Z3,hZ3⟩ : ∃ Z3,Z3 = Z2.alloc (.cells #[.int .i64 0,.int .i64 1,.int .i64 2,.int .i64 3,.int .i64 4,.int .i64 5,.int .i64 6,.int .i64 7] 3) := ⟨_,rfl⟩;obtain ⟨Z4,hZ4⟩ : ∃ Z4,Z4 = Z3.alloc (.cells #[.int .i64 2,.int .i64 1,.slice none 0 0,.int .i64 2,.int .i64 3,.slice (some ⟨s,0,none⟩) 3 3,.slice (some ⟨s + 1,0,none⟩) 3 3,.slice (some ⟨s + 1 + 1,0,none⟩) 8 8] 44) := ⟨_,rfl⟩;have z1 : Z1.heap.size = s + 1 := by rw [hZ1,hs]; simp
 have z2 : Z2.heap.size = s + 2 := by rw [hZ2]; simp [z1]
 have z3 : Z3.heap.size = s + 3 := by rw [hZ3]; simp [z2]
 have z4 : Z4.heap.size = s + 4 := by rw [hZ4]; simp [z3]
 have b1 : Below s w Z1 := by rw [hZ1]; exact (Below.refl _ _).alloc (Nat.le_of_eq hs) _
 have b2 : Below (s + 1) Z1 Z2 := by rw [hZ2]; exact (Below.refl _ _).alloc (Nat.le_of_eq z1.symm) _
 have b3 : Below (s + 2) Z2 Z3 := by rw [hZ3]; exact (Below.refl _ _).alloc (Nat.le_of_eq z2.symm) _
 have b4 : Below (s + 3) Z3 Z4 := by rw [hZ4]; exact (Below.refl _ _).alloc (Nat.le_of_eq z3.symm) _
 have r1 : Rd Z1 (s + 1) (some ⟨s,0,none⟩) [1,1,0] := by have h := rd_lit19 w [1,1,0]; rw [hZ1,hs]; exact h
 have r2 : Rd Z2 (s + 2) (some ⟨s + 1,0,none⟩) [1,1,1] := by have h := rd_lit19 Z1 [1,1,1]; rw [z1] at h; rw [hZ2]; exact h
 have r3 : Rd Z3 (s + 3) (some ⟨s + 1 + 1,0,none⟩) pts19 := by have h := rd_lit19 Z2 pts19; rw [z2] at h; rw [hZ3]; exact h
 have c34 := b4;have c24 := b3.trans (c34.mono (show s + 2 ≤ s + 3 by omega));have c14 := b2.trans (c24.mono (show s + 1 ≤ s + 2 by omega));have hB : Below s w Z4 := b1.trans (c14.mono (show s ≤ s + 1 by omega));have hmod : modL E2_3 = [1,1,0] := by decide
 have rr1 : Rd Z4 Z4.heap.size (some ⟨s,0,none⟩) [1,1,0] := by rw [z4]; exact (r1.below c14).more (by omega)
 have rr2 : Rd Z4 Z4.heap.size (some ⟨s + 1,0,none⟩) [1,1,1] := by rw [z4]; exact (r2.below c24).more (by omega)
 have rr3 : Rd Z4 Z4.heap.size (some ⟨s + 1 + 1,0,none⟩) pts19 := by rw [z4]; exact (r3.below c34).more (by omega)
 have hbG : Hid (Bxs Z4 (s + 1 + 1 + 1) [.int .i64 2,.int .i64 1,.slice none 0 0,.int .i64 2,.int .i64 3,.slice (some ⟨s,0,none⟩) 3 3,.slice (some ⟨s + 1,0,none⟩) 3 3,.slice (some ⟨s + 1 + 1,0,none⟩) 8 8]) := by have h := Bxs.new Z3 [.int .i64 2,.int .i64 1,.slice none 0 0,.int .i64 2,.int .i64 3,.slice (some ⟨s,0,none⟩) 3 3,.slice (some ⟨s + 1,0,none⟩) 3 3,.slice (some ⟨s + 1 + 1,0,none⟩) 8 8] 44; rw [z3] at h; rw [hZ4]; exact h
 have hC : ∀ W,Below Z4.heap.size Z4 W → Calls Tryz.prog 34 #[.agg #[.int .i64 2,.int .i64 1,.slice none 0 0,.int .i64 2,.int .i64 3,.slice (some ⟨s,0,none⟩) 3 3,.slice (some ⟨s + 1,0,none⟩) 3 3,.slice (some ⟨s + 1 + 1,0,none⟩) 8 8]] W (GCPost S E2_3 [1,1,1] pts19 W) := fun W hb => by
  have h := aGopCode_ok S E2_3 [1,1,1] pts19 none (some ⟨s,0,none⟩) (some ⟨s + 1,0,none⟩) (some ⟨s + 1 + 1,0,none⟩) 0 3 3 8 W (by rw [hS]; exact Rd.nil) (by rw [hmod]; exact (rr1.below hb).more hb.size) hgS good8 ((rr2.below hb).more hb.size) ((rr3.below hb).more hb.size) hzS;rw [e1,e2,e3] at h;exact h
 have hDz : ∀ W,Below Z4.heap.size Z4 W → Calls Tryz.prog 88 #[.agg #[.int .i64 2,.int .i64 1,.slice none 0 0,.int .i64 2,.int .i64 3,.slice (some ⟨s,0,none⟩) 3 3,.slice (some ⟨s + 1,0,none⟩) 3 3,.slice (some ⟨s + 1 + 1,0,none⟩) 8 8]] W fun e w' => e = .returned (.tuple #[.int .i64 5,.int .i64 0]) ∧ Below W.heap.size W w' := fun W hb => by
  have h := aGopDes_ok S E2_3 [1,1,1] pts19 none (some ⟨s,0,none⟩) (some ⟨s + 1,0,none⟩) (some ⟨s + 1 + 1,0,none⟩) 0 3 3 8 W (by rw [hS]; exact Rd.nil) (by rw [hmod]; exact (rr1.below hb).more hb.size) hgS good8 ((rr2.below hb).more hb.size) ((rr3.below hb).more hb.size) hzS;rw [e1,e2,e3,hS,des19] at h;exact h
 have hq := Lib.hid (hC Z4 (Below.refl _ _));replace hDz := fun W hb => Lib.hid (hDz W hb)
 clear hC rr1 rr2 rr3 r1 r2 r3 c34 c24 c14 b1 b2 b3 b4 z1 z2 z3;replace e1 := Lib.hid e1;replace e2 := Lib.hid e2;replace e3 := Lib.hid e3;go_enter Tryz.func23,Tryz.ntmps23;obtain ⟨a0,a1,a2,a3,a4,a5,a6,a7⟩ := hbG.out.c8;go_wp2_with (fail);rw [← hZ1,← hZ2,← hZ3];simp only [← hs];rw [← hZ4];have hsw : w.heap.size = s := hs.symm;replace hs := Lib.hid hs;replace hZ1 := Lib.hid hZ1;replace hZ2 := Lib.hid hZ2;replace hZ3 := Lib.hid hZ3;replace hZ4 := Lib.hid hZ4;replace hsw := Lib.hid hsw;(with_reducible refine hq.out.mono ?_);rintro e w1 ⟨F,rt,hF,-,k,C,A3,c3,Al,rfl,hvc,hsp,-,-,-,-,hb1⟩;obtain rfl : k = 2 := alv_k hS hF hvc.can (fun u => hsp u);clear hq hvc hsp a0 a1 a2 a3 a4 a5 a6 a7;rw [show pts19.length = 8 from rfl,e1.out,e2.out,e3.out];obtain ⟨Y,hY⟩ : ∃ Y,Y = w1.alloc (.cells #[.int .i64 2,.int .i64 1,.slice A3 0 c3,.int .i64 8,.slice Al 2 2] 27) := ⟨_,rfl⟩;have hbY : Below w1.heap.size w1 Y := by rw [hY]; exact (Below.refl _ _).alloc (Nat.le_refl _) _
 have hbZY := hb1.trans (hbY.mono hb1.size);have hq2 := hDz Y hbZY;have hbC : Hid (Bxs Y w1.heap.size [.int .i64 2,.int .i64 1,.slice A3 0 c3,.int .i64 8,.slice Al 2 2]) := by rw [hY]; exact Bxs.new w1 _ _
 have hYl : w1.heap.size < Y.heap.size := by rw [hY]; simp
 obtain ⟨a0,a1,a2,a3,a4,a5,a6,a7⟩ := (hbG.out.keep hbZY (by have := z4; omega)).c8;rw [hY] at a0 a1 a2 a3 a4 a5 a6 a7;obtain ⟨pc,hpc⟩ : ∃ pc,pc = w1.heap.size := ⟨_,rfl⟩;rw [← hpc] at hbC hYl;replace hY := Lib.hid hY;go_wp2_with (fail);rw [← hY.out];simp only [← hpc];replace hpc := Lib.hid hpc;(with_reducible refine hq2.out.mono ?_);rintro e w2 ⟨rfl,hb2⟩;obtain ⟨c0,c1,c2,c3',c4⟩ := (hbC.out.keep hb2 hYl).c5;clear a0 a1 a2 a3 a4 a5 a6 a7 hq2 hDz;have hfin : Hid (Below w.heap.size w w2) := by
  rw [Hid,hsw.out];exact hB.trans ((hbZY.trans (hb2.mono hbZY.size)).mono (by have := z4; omega))
 go_wp2_with (fail);go_ret;exact ⟨rfl,hfin.out⟩

end
section
open Go.RowKit Cw
attribute [local go_sem] Oper.semAt_some

def altD (S D : Desc) (K : Int) (pts mul : List Int) : Int := if gchkD D K pts mul = 0 then (if fitB S D = true then 0 else 10) else gchkD D K pts mul
theorem altD_zero {S D : Desc} {K : Int} {pts mul : List Int} (h : altD S D K pts mul = 0) : gchkD D K pts mul = 0 ∧ fitB S D = true := by
 unfold altD at h;by_cases h1 : gchkD D K pts mul = 0
 ·rw [if_pos h1] at h;by_cases h2 : fitB S D = true
  ·exact ⟨h1,h2⟩
  ·rw [if_neg h2] at h; cases h
 ·rw [if_neg h1] at h; exact absurd h h1
set_option maxRecDepth 100000 in
set_option maxHeartbeats 4000000 in
theorem Chk19_core (E0 E : Int) (fb : Bool) (P M Q N K : Int) (ml nl pts mul : List Int) (A B A1 A2 : Option Addr) (c b c1 c2 : Nat) (w : World) (hP : I64 P) (hM : I64 M) (hl : ml.length ≤ maxLen) (hr : Rd w w.heap.size A ml) (hg : Good P M ml)
  (h18 : ∀ W,Below w.heap.size w W → Calls Tryz.prog 112 #[.agg #[.int .i64 Q,.int .i64 N,.slice B nl.length b,.int .i64 K,.slice A1 pts.length c1,.slice A2 mul.length c2]] W fun e w' => e = .returned (.int .i64 E0) ∧ Below W.heap.size W w')
  (hF : E0 = 0 → ∀ W,Calls Tryz.prog 92 #[.agg #[.int .i64 P,.int .i64 M,.slice A ml.length c],.agg #[.int .i64 Q,.int .i64 N,.slice B nl.length b]] W fun e w' => e = .returned (.bool fb) ∧ Below W.heap.size W w')
  (hE : E = if E0 = 0 then (if fb = true then 0 else 10) else E0) :
  Calls Tryz.prog 48 #[.agg #[.int .i64 P,.int .i64 M,.slice A ml.length c],.agg #[.int .i64 Q,.int .i64 N,.slice B nl.length b,.int .i64 K,.slice A1 pts.length c1,.slice A2 mul.length c2]] w fun e w' => e = .returned (.int .i64 E) ∧ Below w.heap.size w w' := by
 have hCk := fun W h => Check_any P M ml A c W hP.2 hM.2 hl h
 rw [chk_yes hg] at hCk;replace hCk := fun W h => Lib.hid (hCk W h)
 obtain ⟨s,hs⟩ : ∃ s,s = w.heap.size := ⟨_,rfl⟩;obtain ⟨Z,hZ⟩ : ∃ Z,Z = (w.alloc (.cells #[.int .i64 P,.int .i64 M,.slice A ml.length c] 24)).alloc (.cells #[.int .i64 Q,.int .i64 N,.slice B nl.length b,.int .i64 K,.slice A1 pts.length c1,.slice A2 mul.length c2] 72) := ⟨_,rfl⟩;have hB : Below w.heap.size w Z := by rw [hZ]; exact ((Below.refl _ _).alloc (Nat.le_refl _) _).alloc (by simp) _
 have hbA : Hid (Bxs Z s [.int .i64 P,.int .i64 M,.slice A ml.length c]) := by rw [hZ,hs]; exact (Bxs.new w _ _).keep ((Below.refl _ _).alloc (Nat.le_refl _) _) (by simp)
 have hbG : Hid (Bxs Z (s + 1) [.int .i64 Q,.int .i64 N,.slice B nl.length b,.int .i64 K,.slice A1 pts.length c1,.slice A2 mul.length c2]) := by rw [hZ,hs]; have := Bxs.new (w.alloc (.cells #[.int .i64 P,.int .i64 M,.slice A ml.length c] 24)) [.int .i64 Q,.int .i64 N,.slice B nl.length b,.int .i64 K,.slice A1 pts.length c1,.slice A2 mul.length c2] 72; rw [World.size_alloc] at this; exact this
 have hZs : s + 1 < Z.heap.size := by rw [hZ,hs]; simp
 have hq := hCk Z ((hr.below hB).more hB.size);replace hZ := Lib.hid hZ;replace hE := Lib.hid hE;clear hCk hP hM hl hg hr;go_enter Tryz.func48,Tryz.ntmps48;obtain ⟨a0,a1,a2⟩ := hbA.out.c3;go_wp2_with (fail);rw [← hZ.out];simp only [← hs];replace hs := Lib.hid hs;(with_reducible refine hq.out.mono ?_);rintro e w1 ⟨rfl,hb1⟩;clear hq a0 a1 a2;have hB1 := hB.trans (hb1.mono hB.size);have hq := Lib.hid (h18 w1 hB1);obtain ⟨d0,d1,d2,d3,d4,d5⟩ := (hbG.out.keep hb1 hZs).c6;clear h18;go_wp2_with (fail);(with_reducible refine hq.out.mono ?_);rintro e w2 ⟨rfl,hb2⟩;clear hq d0 d1 d2 d3 d4 d5;have hbz2 := hb1.trans (hb2.mono hb1.size);have hB2 := hB.trans (hbz2.mono hB.size);by_cases h0 : E0 = 0
 ·have h0b : (E0 == 0) = true := by rw [beq_iff_eq]; exact h0
  have hq := Lib.hid (hF h0 w2);obtain ⟨a0,a1,a2⟩ := (hbA.out.keep hbz2 (by omega)).c3;obtain ⟨d0,d1,d2,d3,d4,d5⟩ := (hbG.out.keep hbz2 hZs).c6
  cases fb with
  | true =>
   have hfin : Hid (E0 = E) := by rw [hE.out,if_pos h0,if_pos rfl]; exact Lib.hid h0
   replace h0 := Lib.hid h0;clear hF;go_wp2_with (fail);(with_reducible refine hq.out.mono ?_);rintro e w3 ⟨rfl,hb3⟩;go_wp2_with (fail);go_ret;exact ⟨ret_int hfin.out,hB2.trans (hb3.mono hB2.size)⟩
  | false =>
   have hfin : Hid ((10 : Int) = E) := by rw [hE.out,if_pos h0,if_neg (by decide)]; exact Lib.hid rfl
   replace h0 := Lib.hid h0;clear hF;go_wp2_with (fail);(with_reducible refine hq.out.mono ?_);rintro e w3 ⟨rfl,hb3⟩;go_wp2_with (fail);go_ret;exact ⟨ret_int hfin.out,hB2.trans (hb3.mono hB2.size)⟩
 ·have h0b : (E0 == 0) = false := by rw [beq_eq_false_iff_ne]; exact h0
  have hfin : Hid (E0 = E) := by rw [hE.out,if_neg h0]; exact Lib.hid rfl
  replace h0 := Lib.hid h0;clear hF;go_wp2_with (fail);go_ret;exact ⟨ret_int hfin.out,hB2⟩
set_option maxRecDepth 100000 in
set_option maxHeartbeats 4000000 in
theorem Chk19_bad1 (P M Q N K : Int) (ml nl pts mul : List Int) (A B A1 A2 : Option Addr) (c b c1 c2 : Nat) (w : World) (hP : I64 P) (hM : I64 M) (hl : ml.length ≤ maxLen) (hr : Rd w w.heap.size A ml) (hg : ¬ Good P M ml) :
  Calls Tryz.prog 48 #[.agg #[.int .i64 P,.int .i64 M,.slice A ml.length c],.agg #[.int .i64 Q,.int .i64 N,.slice B nl.length b,.int .i64 K,.slice A1 pts.length c1,.slice A2 mul.length c2]] w fun e w' => e = .returned (.int .i64 1) ∧ Below w.heap.size w w' := by
 have hCk := fun W h => Check_any P M ml A c W hP.2 hM.2 hl h
 rw [chk_no hg] at hCk;replace hCk := fun W h => Lib.hid (hCk W h)
 obtain ⟨s,hs⟩ : ∃ s,s = w.heap.size := ⟨_,rfl⟩;obtain ⟨Z,hZ⟩ : ∃ Z,Z = (w.alloc (.cells #[.int .i64 P,.int .i64 M,.slice A ml.length c] 24)).alloc (.cells #[.int .i64 Q,.int .i64 N,.slice B nl.length b,.int .i64 K,.slice A1 pts.length c1,.slice A2 mul.length c2] 72) := ⟨_,rfl⟩;have hB : Below w.heap.size w Z := by rw [hZ]; exact ((Below.refl _ _).alloc (Nat.le_refl _) _).alloc (by simp) _
 have hbA : Hid (Bxs Z s [.int .i64 P,.int .i64 M,.slice A ml.length c]) := by rw [hZ,hs]; exact (Bxs.new w _ _).keep ((Below.refl _ _).alloc (Nat.le_refl _) _) (by simp)
 have hq := hCk Z ((hr.below hB).more hB.size);replace hZ := Lib.hid hZ;clear hCk hP hM hl hg hr;go_enter Tryz.func48,Tryz.ntmps48;obtain ⟨a0,a1,a2⟩ := hbA.out.c3;go_wp2_with (fail);rw [← hZ.out];simp only [← hs];replace hs := Lib.hid hs;(with_reducible refine hq.out.mono ?_);rintro e w1 ⟨rfl,hb1⟩;clear hq a0 a1 a2;have hB1 := hB.trans (hb1.mono hB.size);go_wp2_with (fail);go_ret;exact ⟨rfl,hB1⟩
theorem Chk19_any (P M Q N K : Int) (ml nl pts mul : List Int) (A B A1 A2 : Option Addr) (c b c1 c2 : Nat) (w : World) (hP : I64 P) (hM : I64 M) (hQ : I64 Q) (hN : I64 N) (hl : ml.length ≤ maxLen) (hn : nl.length ≤ maxLen) (hm : mul.length ≤ maxLen) (hr : Rd w w.heap.size A ml) (hrB : Rd w w.heap.size B nl) (hr1 : Rd w w.heap.size A1 pts) (hr2 : Rd w w.heap.size A2 mul) :
  ∃ E,(Calls Tryz.prog 48 #[.agg #[.int .i64 P,.int .i64 M,.slice A ml.length c],.agg #[.int .i64 Q,.int .i64 N,.slice B nl.length b,.int .i64 K,.slice A1 pts.length c1,.slice A2 mul.length c2]] w fun e w' => e = .returned (.int .i64 E) ∧ Below w.heap.size w w') ∧
   (E = 0 → ∃ S D : Desc,P = S.p ∧ M = S.m ∧ ml = modL S ∧ Q = D.p ∧ N = D.m ∧ nl = modL D ∧ Good S.p S.m (modL S) ∧ Good D.p D.m (modL D) ∧ gchkD D K pts mul = 0 ∧ fitB S D = true) := by
 by_cases hg1 : Good P M ml
 ·by_cases hg2 : Good Q N nl
  ·obtain ⟨S,rfl,rfl,rfl,hS⟩ := id hg1;obtain ⟨D,rfl,rfl,rfl,hD⟩ := id hg2;refine ⟨altD S D K pts mul,?_,fun h => ⟨S,D,rfl,rfl,rfl,rfl,rfl,rfl,hg1,hg2,(altD_zero h).1,(altD_zero h).2⟩⟩;refine Chk19_core (gchkD D K pts mul) _ (fitB S D) S.p S.m D.p D.m K (modL S) (modL D) pts mul A B A1 A2 c b c1 c2 w hP hM hl hr hg1 (fun W hb => ?_) (fun _ W => ?_) rfl
   ·have h := Chk18_D D K pts mul B A1 A2 b c1 c2 W ((hrB.below hb).more hb.size) hg2 ((hr1.below hb).more hb.size) ((hr2.below hb).more hb.size) hm;rw [← modL_length] at h;exact h
   ·rw [modL_length,modL_length]; exact Fits_any S D A B S.mod.length c D.mod.length b W
  ·refine ⟨1,?_,fun h => by cases h⟩;refine Chk19_core 1 1 true P M Q N K ml nl pts mul A B A1 A2 c b c1 c2 w hP hM hl hr hg1 (fun W hb => ?_) (fun h => absurd h (by decide)) rfl;exact Chk18_bad Q N K nl pts mul B A1 A2 b c1 c2 W hQ hN hn ((hrB.below hb).more hb.size) hg2
 ·exact ⟨1,Chk19_bad1 P M Q N K ml nl pts mul A B A1 A2 c b c1 c2 w hP hM hl hr hg1,fun h => by cases h⟩
end
section
open Go.RowKit Cw
attribute [local go_sem] Oper.semAt_some

set_option maxHeartbeats 1000000 in
theorem few19_any (A : Option Addr) (n c : Nat) (w : World) : Calls Tryz.prog 24 #[.slice A n c] w fun e w' => e = .returned (.bool (decide ((n : Int) ≤ 20))) ∧ w = w' := by
 go_enter Tryz.func24,Tryz.ntmps24;go_wp2_with (fail);go_ret;exact ⟨rfl,rfl⟩
end
section
open Go.RowKit Cw
attribute [local go_sem] Oper.semAt_some

set_option maxRecDepth 100000 in
set_option maxHeartbeats 8000000 in
theorem altImgL (P M : Int) (ml : List Int) (A : Option Addr) (c : Nat) (Q N K : Int) (nl pts mul : List Int) (B A1 A2 : Option Addr) (b c1 c2 : Nat) (wl : List Int) (Aw : Option Addr) (cw : Nat) (w : World) (hP : I64 P) (hM : I64 M) (hl : ml.length ≤ maxLen) (hr : Rd w w.heap.size A ml)
  (hQ : I64 Q) (hN : I64 N) (_hK : I64 K) (hn : nl.length ≤ maxLen) (hc1 : pts.length ≤ c1 ∧ c1 ≤ maxLen) (hc2 : mul.length ≤ c2 ∧ c2 ≤ maxLen) (_hi : ∀ x ∈ pts,I64 x) (_hj : ∀ x ∈ mul,I64 x) (hrB : Rd w w.heap.size B nl) (hr1 : Rd w w.heap.size A1 pts) (hr2 : Rd w w.heap.size A2 mul)
  (hcw : wl.length ≤ cw) (hcm : cw ≤ maxLen) (hrw : Rd w w.heap.size Aw wl) :
  Calls Tryz.prog 10 #[.agg #[.int .i64 P,.int .i64 M,.slice A ml.length c],.agg #[.int .i64 Q,.int .i64 N,.slice B nl.length b,.int .i64 K,.slice A1 pts.length c1,.slice A2 mul.length c2],.slice Aw wl.length cw] w fun e w' => e = .returned (.bool true) ∧ Below w.heap.size w w' := by
 have hpl : pts.length ≤ maxLen := Nat.le_trans hc1.1 hc1.2;have hml : mul.length ≤ maxLen := Nat.le_trans hc2.1 hc2.2;have hwm : wl.length ≤ maxLen := Nat.le_trans hcw hcm;obtain ⟨s,hs⟩ : ∃ s,s = w.heap.size := ⟨_,rfl⟩;obtain ⟨Z,hZ⟩ : ∃ Z,Z = (w.alloc (.cells #[.int .i64 P,.int .i64 M,.slice A ml.length c] 24)).alloc (.cells #[.int .i64 Q,.int .i64 N,.slice B nl.length b,.int .i64 K,.slice A1 pts.length c1,.slice A2 mul.length c2] 72) := ⟨_,rfl⟩;have hB : Below w.heap.size w Z := by rw [hZ]; exact ((Below.refl _ _).alloc (Nat.le_refl _) _).alloc (by simp) _
 have hbA : Hid (Bxs Z s [.int .i64 P,.int .i64 M,.slice A ml.length c]) := by rw [hZ,hs]; exact (Bxs.new w _ _).keep ((Below.refl _ _).alloc (Nat.le_refl _) _) (by simp)
 have hbG : Hid (Bxs Z (s + 1) [.int .i64 Q,.int .i64 N,.slice B nl.length b,.int .i64 K,.slice A1 pts.length c1,.slice A2 mul.length c2]) := by rw [hZ,hs]; have := Bxs.new (w.alloc (.cells #[.int .i64 P,.int .i64 M,.slice A ml.length c] 24)) [.int .i64 Q,.int .i64 N,.slice B nl.length b,.int .i64 K,.slice A1 pts.length c1,.slice A2 mul.length c2] 72; rw [World.size_alloc] at this; exact this
 have hZs : s + 1 < Z.heap.size := by rw [hZ,hs]; simp
 have hq := Lib.hid (alive19_any Z);have hfe := fun W => Lib.hid (few19_any A1 pts.length c1 W)
 replace hZ := Lib.hid hZ;go_enter Tryz.func10,Tryz.ntmps10;go_wp2_with (fail);rw [← hZ.out];simp only [← hs];have hsw : w.heap.size ≤ s := Nat.le_of_eq hs.symm;replace hs := Lib.hid hs;(with_reducible refine hq.out.mono ?_);rintro e w1 ⟨rfl,hb1⟩;clear hq;have hB1 := hB.trans (hb1.mono hB.size);have hs1 : s + 1 < w1.heap.size := Nat.lt_of_lt_of_le hZs hb1.size;obtain ⟨E,hC,hE⟩ := Chk19_any P M Q N K ml nl pts mul A B A1 A2 c b c1 c2 w1 hP hM hQ hN hl hn hml ((hr.below hB1).more hB1.size) ((hrB.below hB1).more hB1.size) ((hr1.below hB1).more hB1.size) ((hr2.below hB1).more hB1.size);replace hC := Lib.hid hC;replace hE := Lib.hid hE;have hq1 := hfe w1;clear hfe;obtain ⟨a0,a1,a2⟩ := (hbA.out.keep hb1 (by omega)).c3;obtain ⟨d0,d1,d2,d3,d4,d5⟩ := (hbG.out.keep hb1 hZs).c6;by_cases h20 : (pts.length : Int) ≤ 20;rotate_left
 ·rw [decide_eq_false h20] at hq1;replace h20 := Lib.hid h20;replace hq1 := Lib.hid hq1.out;go_wp2_with (fail);(with_reducible refine hq1.out.mono ?_);rintro e w2 ⟨rfl,rfl⟩;go_wp2_with (fail);go_ret;exact ⟨rfl,hB1⟩
 rw [decide_eq_true h20] at hq1;replace h20 := Lib.hid h20;replace hq1 := Lib.hid hq1.out;go_wp2_with (fail);(with_reducible refine hq1.out.mono ?_);rintro e w2 ⟨rfl,rfl⟩;go_wp2_with (fail);(with_reducible refine hC.out.mono ?_);rintro e w2 ⟨rfl,hb2⟩;clear hC hq1 a0 a1 a2 d0 d1 d2 d3 d4 d5;have hbz2 := hb1.trans (hb2.mono hb1.size);have hB2 := hB.trans (hbz2.mono hB.size);by_cases h0 : E = 0;rotate_left
 ·have h0b : (E != 0) = true := by rw [bne_iff_ne]; exact h0
  replace h0 := Lib.hid h0;go_wp2_with (fail);go_ret;exact ⟨rfl,hB2⟩
 have h0b : (E != 0) = false := by rw [bne_eq_false_iff_eq]; exact h0
 obtain ⟨S',D',rfl,rfl,rfl,rfl,rfl,rfl,hgS,hgD,hz,hf⟩ := hE.out h0;obtain ⟨S,rfl⟩ := good_FD hgS;obtain ⟨hn1,hn64,hlen,-,-,-,-,hK0,hKn⟩ := gchkD_zero hz;obtain ⟨kn,rfl⟩ : ∃ kn : Nat,K = (kn : Int) := ⟨K.toNat,by omega⟩;have hkn : kn ≤ pts.length := by omega
 replace h0 := Lib.hid h0;have hzH := Lib.hid hz;replace hlen := Lib.hid hlen;have hCoO := fun W (hb : Below Z.heap.size Z W) => aCode_ok S D' kn pts mul A B A1 A2 c b c1 c2 W ((hr.below (hB.trans (hb.mono hB.size))).more (hB.trans (hb.mono hB.size)).size) ((hrB.below (hB.trans (hb.mono hB.size))).more (hB.trans (hb.mono hB.size)).size) hgS hgD ((hr1.below (hB.trans (hb.mono hB.size))).more (hB.trans (hb.mono hB.size)).size) ((hr2.below (hB.trans (hb.mono hB.size))).more (hB.trans (hb.mono hB.size)).size) hz hf hc1.1 hc1.2
 rw [← modL_length S.toDesc,← modL_length D'] at hCoO;replace hCoO := fun W hb => Lib.hid (hCoO W hb)
 have hq := elems19_any S.toDesc wl (pts.length : Int) A Aw c cw w2 ((hrw.below hB2).more hB2.size) hwm;rw [← modL_length S.toDesc] at hq;obtain ⟨a0,a1,a2⟩ := (hbA.out.keep hbz2 (by omega)).c3;obtain ⟨d0,d1,d2,d3,d4,d5⟩ := (hbG.out.keep hbz2 hZs).c6;by_cases he0 : elErr S.toDesc wl (pts.length : Int) 4 = 0;rotate_left
 ·have heb : (elErr S.toDesc wl (pts.length : Int) 4 == 0) = false := by rw [beq_eq_false_iff_ne]; exact he0
  rw [heb] at hq;replace heb := Lib.hid heb;replace he0 := Lib.hid he0;replace hq := Lib.hid hq;go_wp2_with (fail);(with_reducible refine hq.out.mono ?_);rintro e w3 ⟨rfl,hb3⟩;go_wp2_with (fail);go_ret;exact ⟨rfl,hB2.trans (hb3.mono hB2.size)⟩
 have heb : (elErr S.toDesc wl (pts.length : Int) 4 == 0) = true := by rw [beq_iff_eq]; exact he0
 obtain ⟨hwk,hwe⟩ := elErr4_zero he0;have hwk2 : wl.length = pts.length := by omega
 obtain ⟨u,hu⟩ : ∃ u : Nat → R S.toDesc,u = fun j => eli S.toDesc (wl[j]?.getD 0) := ⟨_,rfl⟩
 have hwl : Hid (wl = rowL S.toDesc pts.length u) := by rw [Hid,hu,← hwk2]; exact list_rowL hwe
 rw [heb,hwk2] at hq;replace heb := Lib.hid heb;replace he0 := Lib.hid he0;replace hwk := Lib.hid hwk;replace hq := Lib.hid hq;replace hu := Lib.hid hu;rw [hwk2];replace hwk2 := Lib.hid hwk2;have hrw2 : Rd w w.heap.size Aw (rowL S.toDesc pts.length u) := by rw [← hwl.out]; exact hrw
 go_wp2_with (fail);(with_reducible refine hq.out.mono ?_);rintro e w3 ⟨rfl,hb3⟩;clear hq a0 a1 a2 d0 d1 d2 d3 d4 d5;have hbz3 := hbz2.trans (hb3.mono hbz2.size);have hq := hCoO w3 hbz3;obtain ⟨a0,a1,a2⟩ := (hbA.out.keep hbz3 (by omega)).c3;obtain ⟨d0,d1,d2,d3,d4,d5⟩ := (hbG.out.keep hbz3 hZs).c6;go_wp2_with (fail);(with_reducible refine hq.out.mono ?_);rintro e w4 ⟨F,rt,rfl,hrt,k,C,A3,c3,Al,rfl,hvc,hsp,hdim,hr3,hA3,hru3,hb4⟩;clear hq a0 a1 a2 d0 d1 d2 d3 d4 d5;have hbz4 := hbz3.trans (hb4.mono hbz3.size);obtain ⟨Y,hY⟩ : ∃ Y,Y = w4.alloc (.cells #[.int .i64 S.p,.int .i64 S.m,.slice A3 S.mod.length c3,.int .i64 pts.length,.slice Al k k] 27) := ⟨_,rfl⟩;have hbY : Below w4.heap.size w4 Y := by rw [hY]; exact (Below.refl _ _).alloc (Nat.le_refl _) _
 have hbzY := hbz4.trans (hbY.mono hbz4.size);have hBY := hB.trans (hbzY.mono hB.size);obtain ⟨pc,hpc⟩ : ∃ pc,pc = w4.heap.size := ⟨_,rfl⟩;have hYs : pc < Y.heap.size := by rw [hY,hpc]; simp
 have hbC : Hid (Bxs Y pc [.int .i64 S.p,.int .i64 S.m,.slice A3 S.mod.length c3,.int .i64 pts.length,.slice Al k k]) := by rw [hY,hpc]; exact Bxs.new w4 _ _
 have hr3Y := (hr3.below hbY).more hbY.size;have hruY := (hru3.rdm.below hbY).more hbY.size;have hkN : k ≤ pts.length := hvc.le;have hCh := fun W x1 x2 => Lib.hid (Check12_ok S hgS k pts.length C hvc.can A3 Al c3 k W x1 x2 (by omega) hn1 hn64)
 clear hr3 hru3;have hq := hCh Y hr3Y hruY;obtain ⟨e0,e1,e2,e3,e4⟩ := hbC.out.c5;rw [hY] at e0 e1 e2 e3 e4;rw [hpc] at e0 e1 e2 e3 e4;replace hY := Lib.hid hY;go_wp2_with (fail);rw [← hY.out];simp only [← hpc];replace hpc := Lib.hid hpc;(with_reducible refine hq.out.mono ?_);rintro e w5 ⟨rfl,hb5⟩;clear hq e0 e1 e2 e3 e4;have hbz5 := hbzY.trans (hb5.mono hbzY.size);have hB5 := hB.trans (hbz5.mono hB.size);have hq := Has12_vc hvc u A3 Al Aw c3 k cw w5 ((hr3Y.below hb5).more hb5.size) ((hruY.below hb5).more hb5.size) ((hrw2.below hB5).more hB5.size);rw [modL_length] at hq;replace hq := Lib.hid hq;obtain ⟨e0,e1,e2,e3,e4⟩ := (hbC.out.keep hb5 hYs).c5;go_wp2_with (fail);(with_reducible refine hq.out.mono ?_);rintro e w6 ⟨rfl,hb6⟩;clear hq e0 e1 e2 e3 e4;have hbz6 := hbz5.trans (hb6.mono hbz5.size);have hB6 := hB.trans (hbz6.mono hB.size);have hbd : Below w6.heap.size w6 w6.drew := (Below.refl _ _).drew;have hBd := hB6.trans (hbd.mono hB6.size);have hIm := Image19_ok S F rt pts.length u A B Aw c b cw w6.drew ((hr.below hBd).more hBd.size) ((hrB.below hBd).more hBd.size) (fitB_iff.1 hf).1 hrt ((hrw2.below hBd).more hBd.size) (by omega);rw [← modL_length S.toDesc,← modL_length F.toDesc] at hIm;unfold Gives at hIm;rw [show (imgL S F rt pts.length u).length = pts.length from rowL_length _ _ _] at hIm;replace hIm := Lib.hid hIm;have hin : spB k pts.length C u = inB F kn pts mul (imgL S F rt pts.length u) := by
  have h9 := (hsp u).trans (meets_in (wl := imgL S F rt pts.length u) hzH.out fun j hj => by unfold imgL; rw [rowL_get _ _ hj,eli_ci]);rw [Bool.eq_iff_iff,spB_iff,h9]
 have hHa := fun Ai ci' W x1 x2 x3 x4 => Has18_any F hgD kn pts mul (imgL S F rt pts.length u) B A1 A2 Ai b c1 c2 ci' W hzH.out x1 x2 x3 x4 (rowL_length _ _ _) (elB_rowL _ _ _)
 rw [show (imgL S F rt pts.length u).length = pts.length from rowL_length _ _ _,← hin,← modL_length F.toDesc] at hHa;replace hHa := fun Ai ci' W x1 x2 x3 x4 => Lib.hid (hHa Ai ci' W x1 x2 x3 x4)
 obtain ⟨bb,hbb⟩ : ∃ bb,bb = spB k pts.length C u := ⟨_,rfl⟩;rw [← hbb] at hHa ⊢;replace hbb := Lib.hid hbb;have hS0 : Hid (w6.cell? ⟨s,0,none⟩ = some (.int .i64 S.p) ∧ w6.cell? ⟨s,1,none⟩ = some (.int .i64 S.m) ∧ w6.cell? ⟨s,2,none⟩ = some (.slice A (modL S.toDesc).length c) ∧ w6.cell? ⟨s + 1,0,none⟩ = some (.int .i64 F.p) ∧ w6.cell? ⟨s + 1,1,none⟩ = some (.int .i64 F.m) ∧ w6.cell? ⟨s + 1,2,none⟩ = some (.slice B (modL F.toDesc).length b) ∧ w6.cell? ⟨s + 1,3,none⟩ = some (.int .i64 (kn : Int)) ∧ w6.cell? ⟨s + 1,4,none⟩ = some (.slice A1 pts.length c1) ∧ w6.cell? ⟨s + 1,5,none⟩ = some (.slice A2 mul.length c2)) := ⟨(hbA.out.keep hbz6 (by omega)).c3.1,(hbA.out.keep hbz6 (by omega)).c3.2.1,(hbA.out.keep hbz6 (by omega)).c3.2.2,(hbG.out.keep hbz6 hZs).c6.1,(hbG.out.keep hbz6 hZs).c6.2.1,(hbG.out.keep hbz6 hZs).c6.2.2.1,(hbG.out.keep hbz6 hZs).c6.2.2.2.1,(hbG.out.keep hbz6 hZs).c6.2.2.2.2.1,(hbG.out.keep hbz6 hZs).c6.2.2.2.2.2⟩;have hkp : ∀ {Bn : Nat} {W W' : World},Below Bn W W' → s + 1 < Bn → Hid (W.cell? ⟨s,0,none⟩ = some (.int .i64 S.p) ∧ W.cell? ⟨s,1,none⟩ = some (.int .i64 S.m) ∧ W.cell? ⟨s,2,none⟩ = some (.slice A (modL S.toDesc).length c) ∧ W.cell? ⟨s + 1,0,none⟩ = some (.int .i64 F.p) ∧ W.cell? ⟨s + 1,1,none⟩ = some (.int .i64 F.m) ∧ W.cell? ⟨s + 1,2,none⟩ = some (.slice B (modL F.toDesc).length b) ∧ W.cell? ⟨s + 1,3,none⟩ = some (.int .i64 (kn : Int)) ∧ W.cell? ⟨s + 1,4,none⟩ = some (.slice A1 pts.length c1) ∧ W.cell? ⟨s + 1,5,none⟩ = some (.slice A2 mul.length c2)) → Hid (W'.cell? ⟨s,0,none⟩ = some (.int .i64 S.p) ∧ W'.cell? ⟨s,1,none⟩ = some (.int .i64 S.m) ∧ W'.cell? ⟨s,2,none⟩ = some (.slice A (modL S.toDesc).length c) ∧ W'.cell? ⟨s + 1,0,none⟩ = some (.int .i64 F.p) ∧ W'.cell? ⟨s + 1,1,none⟩ = some (.int .i64 F.m) ∧ W'.cell? ⟨s + 1,2,none⟩ = some (.slice B (modL F.toDesc).length b) ∧ W'.cell? ⟨s + 1,3,none⟩ = some (.int .i64 (kn : Int)) ∧ W'.cell? ⟨s + 1,4,none⟩ = some (.slice A1 pts.length c1) ∧ W'.cell? ⟨s + 1,5,none⟩ = some (.slice A2 mul.length c2)) := fun {Bn} {W} {W'} hb h1 ⟨x0,x1,x2,y0,y1,y2,y3,y4,y5⟩ =>
  ⟨(hb.cell (p := ⟨s,0,none⟩) (show s < Bn by omega)).trans x0,(hb.cell (p := ⟨s,1,none⟩) (show s < Bn by omega)).trans x1,(hb.cell (p := ⟨s,2,none⟩) (show s < Bn by omega)).trans x2,(hb.cell (p := ⟨s + 1,0,none⟩) h1).trans y0,(hb.cell (p := ⟨s + 1,1,none⟩) h1).trans y1,(hb.cell (p := ⟨s + 1,2,none⟩) h1).trans y2,(hb.cell (p := ⟨s + 1,3,none⟩) h1).trans y3,(hb.cell (p := ⟨s + 1,4,none⟩) h1).trans y4,(hb.cell (p := ⟨s + 1,5,none⟩) h1).trans y5⟩
 have hs6 : s + 1 < w6.heap.size := Nat.lt_of_lt_of_le hZs hbz6.size;clear hsp hvc hin;go_wp2_with (fail);refine wp_region_held_drew (S := fun w' => w'.cell? ⟨s,0,none⟩ = some (.int .i64 S.p) ∧ w'.cell? ⟨s,1,none⟩ = some (.int .i64 S.m) ∧ w'.cell? ⟨s,2,none⟩ = some (.slice A (modL S.toDesc).length c) ∧ w'.cell? ⟨s + 1,0,none⟩ = some (.int .i64 F.p) ∧ w'.cell? ⟨s + 1,1,none⟩ = some (.int .i64 F.m) ∧ w'.cell? ⟨s + 1,2,none⟩ = some (.slice B (modL F.toDesc).length b) ∧ w'.cell? ⟨s + 1,3,none⟩ = some (.int .i64 (kn : Int)) ∧ w'.cell? ⟨s + 1,4,none⟩ = some (.slice A1 pts.length c1) ∧ w'.cell? ⟨s + 1,5,none⟩ = some (.slice A2 mul.length c2)) (by kernel_rfl) (by (try dsimp only); exact hS0.out) (fun hHeld => ?_);refine tk 0 ?_; try simp only [pS]
 refine tk 1 ?_; try simp only [pS]
 refine tk 2 ?_; try simp only [pS]
 refine tk 3 ?_; try simp only [pS]
 refine tk 4 ?_; try simp only [pS]
 refine tk 5 ?_; try simp only [pS]
 refine tk 6 ?_; try simp only [pS]
 refine tk 7 ?_; try simp only [pS]
 refine tk 8 ?_; try simp only [pS]
 refine rd 9 fun K hK => ?_
 go_simp;go_at_call 32;(with_reducible refine (hIm).out.mono ?_);rintro e w7 ⟨gi,rfl,hgi,hibi,hb7⟩;have hb67 := hbd.trans hb7;have hS7 := hkp hb67 hs6 hS0;have hB7 := hBd.trans (hb7.mono hBd.size);have hq9 := hHa (some ⟨gi,0,none⟩) pts.length w7 ((hrB.below hB7).more hB7.size) ((hr1.below hB7).more hB7.size) ((hr2.below hB7).more hB7.size) hibi.rd;go_wp2_with (fail);refine hK.out _ _ (by (try dsimp only); exact hS7.out) (fun hHeld => ?_);clear hK K;try simp only [pS]
 refine rd 10 fun K hK => ?_
 go_simp;go_at_call 50;(with_reducible refine (hq9).out.mono ?_);rintro e w8 ⟨rfl,hb8⟩;have hb68 := hb67.trans (hb8.mono hb67.size);have hS8 := hkp hb68 hs6 hS0;have hfin := Lib.hid (hB7.trans (hb8.mono hB7.size));have hbe : (bb == bb) = true := beq_self_eq_true bb;go_wp2_with (fail);refine hK.out _ _ (by (try dsimp only); exact hS8.out) (fun hHeld => ?_);clear hK K;try simp only [pS]
 refine tk 11 ?_; try simp only [pS]
 refine tk 12 ?_; try simp only [pS]
 refine tk 13 ?_; try simp only [pS]
 refine wpAnyH_done (by kernel_rfl) ?_ _;go_wp2_with (fail);go_ret;exact ⟨ret_bool (by simp),hfin.out⟩
end
end Go.Proofs.YtjdoneanohhkmaaGreat
