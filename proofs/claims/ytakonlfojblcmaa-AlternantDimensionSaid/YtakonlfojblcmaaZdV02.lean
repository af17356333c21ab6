/- Layer 19: the example of the chapter, and the program's Check. AlternantDimension: the law's walk. -/
import Derived.Test.YtakonlfojblcmaaZdCodC
import Derived.Test.YtakonlfojblcmaaZdGopW
import Derived.Test.YtakonlfojblcmaaZdApR
import Derived.Test.YtakonlfojblcmaaZdGopD
import Derived.Test.YtakonlfojblcmaaZdAltO
import Derived.Test.YtakonlfojblcmaaZdAltR
import Derived.Test.YtakonlfojblcmaaZdTk
namespace Go.Proofs.Ytakonlfojblcmaa
open Go.RowKit Cw
attribute [local go_sem] Oper.semAt_some

theorem rd_lit19 (W : World) (l : List Int) : Rd (W.alloc (.cells (l.map (Value.int .i64)).toArray 3)) (W.heap.size + 1) (some ⟨W.heap.size, 0, none⟩) l := by
  have h := rd_new W l
  rw [World.size_alloc] at h
  exact h
theorem gop19 : gopD D2 E2_3 [1, 1, 1] pts19 = 0 := by decide +kernel
theorem sqf19 : SqfP D2 E2_3 [1, 1, 1] := ⟨⟨rfl, rfl⟩, by
  obtain ⟨F, hF⟩ := good_FD good8
  have h := cop19 hF
  rw [hF] at h
  exact h⟩
theorem des19 : desN D2 E2_3 [1, 1, 1] = 5 := by rw [desN_yes sqf19]; decide
set_option maxRecDepth 100000 in
set_option maxHeartbeats 8000000 in
theorem alive19_any (w : World) : Calls Try.prog 18 #[] w fun e w' => e = .returned (.bool true) ∧ Below w.heap.size w w' := by
  obtain ⟨S, hS⟩ := good_FD good2
  have e1 : (S.p : Int) = 2 := by rw [hS]; rfl
  have e2 : (S.m : Int) = 1 := by rw [hS]; rfl
  have e3 : S.mod.length = 0 := by rw [hS]; rfl
  have hgS : Good S.p S.m (modL S.toDesc) := by rw [hS]; exact good2
  have hzS : gopD S.toDesc E2_3 [1, 1, 1] pts19 = 0 := by rw [hS]; exact gop19
  obtain ⟨s, hs⟩ : ∃ s, s = w.heap.size := ⟨_, rfl⟩
  obtain ⟨Z1, hZ1⟩ : ∃ Z1, Z1 = w.alloc (.cells #[.int .i64 1, .int .i64 1, .int .i64 0] 3) := ⟨_, rfl⟩
  obtain ⟨Z2, hZ2⟩ : ∃ Z2, Z2 = Z1.alloc (.cells #[.int .i64 1, .int .i64 1, .int .i64 1] 3) := ⟨_, rfl⟩
  obtain ⟨Z3, hZ3⟩ : ∃ Z3, Z3 = Z2.alloc (.cells #[.int .i64 0, .int .i64 1, .int .i64 2, .int .i64 3, .int .i64 4, .int .i64 5, .int .i64 6, .int .i64 7] 3) := ⟨_, rfl⟩
  obtain ⟨Z4, hZ4⟩ : ∃ Z4, Z4 = Z3.alloc (.cells #[.int .i64 2, .int .i64 1, .slice none 0 0, .int .i64 2, .int .i64 3, .slice (some ⟨s, 0, none⟩) 3 3, .slice (some ⟨s + 1, 0, none⟩) 3 3, .slice (some ⟨s + 1 + 1, 0, none⟩) 8 8] 47) := ⟨_, rfl⟩
  have z1 : Z1.heap.size = s + 1 := by rw [hZ1, hs]; simp
  have z2 : Z2.heap.size = s + 2 := by rw [hZ2]; simp [z1]
  have z3 : Z3.heap.size = s + 3 := by rw [hZ3]; simp [z2]
  have z4 : Z4.heap.size = s + 4 := by rw [hZ4]; simp [z3]
  have b1 : Below s w Z1 := by rw [hZ1]; exact (Below.refl _ _).alloc (Nat.le_of_eq hs) _
  have b2 : Below (s + 1) Z1 Z2 := by rw [hZ2]; exact (Below.refl _ _).alloc (Nat.le_of_eq z1.symm) _
  have b3 : Below (s + 2) Z2 Z3 := by rw [hZ3]; exact (Below.refl _ _).alloc (Nat.le_of_eq z2.symm) _
  have b4 : Below (s + 3) Z3 Z4 := by rw [hZ4]; exact (Below.refl _ _).alloc (Nat.le_of_eq z3.symm) _
  have r1 : Rd Z1 (s + 1) (some ⟨s, 0, none⟩) [1, 1, 0] := by have h := rd_lit19 w [1, 1, 0]; rw [hZ1, hs]; exact h
  have r2 : Rd Z2 (s + 2) (some ⟨s + 1, 0, none⟩) [1, 1, 1] := by have h := rd_lit19 Z1 [1, 1, 1]; rw [z1] at h; rw [hZ2]; exact h
  have r3 : Rd Z3 (s + 3) (some ⟨s + 1 + 1, 0, none⟩) pts19 := by have h := rd_lit19 Z2 pts19; rw [z2] at h; rw [hZ3]; exact h
  have c34 := b4
  have c24 := b3.trans (c34.mono (show s + 2 ≤ s + 3 by omega))
  have c14 := b2.trans (c24.mono (show s + 1 ≤ s + 2 by omega))
  have hB : Below s w Z4 := b1.trans (c14.mono (show s ≤ s + 1 by omega))
  have hmod : modL E2_3 = [1, 1, 0] := by decide
  have rr1 : Rd Z4 Z4.heap.size (some ⟨s, 0, none⟩) [1, 1, 0] := by rw [z4]; exact (r1.below c14).more (by omega)
  have rr2 : Rd Z4 Z4.heap.size (some ⟨s + 1, 0, none⟩) [1, 1, 1] := by rw [z4]; exact (r2.below c24).more (by omega)
  have rr3 : Rd Z4 Z4.heap.size (some ⟨s + 1 + 1, 0, none⟩) pts19 := by rw [z4]; exact (r3.below c34).more (by omega)
  have hbG : Hid (Bxs Z4 (s + 1 + 1 + 1) [.int .i64 2, .int .i64 1, .slice none 0 0, .int .i64 2, .int .i64 3, .slice (some ⟨s, 0, none⟩) 3 3, .slice (some ⟨s + 1, 0, none⟩) 3 3, .slice (some ⟨s + 1 + 1, 0, none⟩) 8 8]) := by have h := Bxs.new Z3 [.int .i64 2, .int .i64 1, .slice none 0 0, .int .i64 2, .int .i64 3, .slice (some ⟨s, 0, none⟩) 3 3, .slice (some ⟨s + 1, 0, none⟩) 3 3, .slice (some ⟨s + 1 + 1, 0, none⟩) 8 8] 47; rw [z3] at h; rw [hZ4]; exact h
  have hC : ∀ W, Below Z4.heap.size Z4 W → Calls Try.prog 44 #[.agg #[.int .i64 2, .int .i64 1, .slice none 0 0, .int .i64 2, .int .i64 3, .slice (some ⟨s, 0, none⟩) 3 3, .slice (some ⟨s + 1, 0, none⟩) 3 3, .slice (some ⟨s + 1 + 1, 0, none⟩) 8 8]] W (GCPost S E2_3 [1, 1, 1] pts19 W) := fun W hb => by
    have h := aGopCode_ok S E2_3 [1, 1, 1] pts19 none (some ⟨s, 0, none⟩) (some ⟨s + 1, 0, none⟩) (some ⟨s + 1 + 1, 0, none⟩) 0 3 3 8 W (by rw [hS]; exact Rd.nil) (by rw [hmod]; exact (rr1.below hb).more hb.size) hgS good8 ((rr2.below hb).more hb.size) ((rr3.below hb).more hb.size) hzS
    rw [e1, e2, e3] at h
    exact h
  have hDz : ∀ W, Below Z4.heap.size Z4 W → Calls Try.prog 45 #[.agg #[.int .i64 2, .int .i64 1, .slice none 0 0, .int .i64 2, .int .i64 3, .slice (some ⟨s, 0, none⟩) 3 3, .slice (some ⟨s + 1, 0, none⟩) 3 3, .slice (some ⟨s + 1 + 1, 0, none⟩) 8 8]] W fun e w' => e = .returned (.tuple #[.int .i64 5, .int .i64 0]) ∧ Below W.heap.size W w' := fun W hb => by
    have h := aGopDes_ok S E2_3 [1, 1, 1] pts19 none (some ⟨s, 0, none⟩) (some ⟨s + 1, 0, none⟩) (some ⟨s + 1 + 1, 0, none⟩) 0 3 3 8 W (by rw [hS]; exact Rd.nil) (by rw [hmod]; exact (rr1.below hb).more hb.size) hgS good8 ((rr2.below hb).more hb.size) ((rr3.below hb).more hb.size) hzS
    rw [e1, e2, e3, hS, des19] at h
    exact h
  have hq := Lib.hid (hC Z4 (Below.refl _ _))
  replace hDz := fun W hb => Lib.hid (hDz W hb)
  clear hC rr1 rr2 rr3 r1 r2 r3 c34 c24 c14 b1 b2 b3 b4 z1 z2 z3
  replace e1 := Lib.hid e1
  replace e2 := Lib.hid e2
  replace e3 := Lib.hid e3
  go_enter Try.func18, Try.ntmps18
  obtain ⟨a0, a1, a2, a3, a4, a5, a6, a7⟩ := hbG.out.c8
  go_wp2_with (fail)
  rw [← hZ1, ← hZ2, ← hZ3]
  simp only [← hs]
  rw [← hZ4]
  have hsw : w.heap.size = s := hs.symm
  replace hs := Lib.hid hs
  replace hZ1 := Lib.hid hZ1
  replace hZ2 := Lib.hid hZ2
  replace hZ3 := Lib.hid hZ3
  replace hZ4 := Lib.hid hZ4
  replace hsw := Lib.hid hsw
  (with_reducible refine hq.out.mono ?_)
  rintro e w1 ⟨F, rt, hF, -, k, C, A3, c3, Al, rfl, hvc, hsp, -, -, -, -, hb1⟩
  obtain rfl : k = 2 := alv_k hS hF hvc.can (fun u => hsp u)
  clear hq hvc hsp a0 a1 a2 a3 a4 a5 a6 a7
  rw [show pts19.length = 8 from rfl, e1.out, e2.out, e3.out]
  obtain ⟨Y, hY⟩ : ∃ Y, Y = w1.alloc (.cells #[.int .i64 2, .int .i64 1, .slice A3 0 c3, .int .i64 8, .slice Al 2 2] 54) := ⟨_, rfl⟩
  have hbY : Below w1.heap.size w1 Y := by rw [hY]; exact (Below.refl _ _).alloc (Nat.le_refl _) _
  have hbZY := hb1.trans (hbY.mono hb1.size)
  have hq2 := hDz Y hbZY
  have hbC : Hid (Bxs Y w1.heap.size [.int .i64 2, .int .i64 1, .slice A3 0 c3, .int .i64 8, .slice Al 2 2]) := by rw [hY]; exact Bxs.new w1 _ _
  have hYl : w1.heap.size < Y.heap.size := by rw [hY]; simp
  obtain ⟨a0, a1, a2, a3, a4, a5, a6, a7⟩ := (hbG.out.keep hbZY (by have := z4; omega)).c8
  rw [hY] at a0 a1 a2 a3 a4 a5 a6 a7
  obtain ⟨pc, hpc⟩ : ∃ pc, pc = w1.heap.size := ⟨_, rfl⟩
  rw [← hpc] at hbC hYl
  replace hY := Lib.hid hY
  go_wp2_with (fail)
  rw [← hY.out]
  simp only [← hpc]
  replace hpc := Lib.hid hpc
  (with_reducible refine hq2.out.mono ?_)
  rintro e w2 ⟨rfl, hb2⟩
  obtain ⟨c0, c1, c2, c3', c4⟩ := (hbC.out.keep hb2 hYl).c5
  clear a0 a1 a2 a3 a4 a5 a6 a7 hq2 hDz
  have hfin : Hid (Below w.heap.size w w2) := by
    rw [Hid, hsw.out]
    exact hB.trans ((hbZY.trans (hb2.mono hbZY.size)).mono (by have := z4; omega))
  go_wp2_with (fail)
  go_ret
  exact ⟨rfl, hfin.out⟩

end Go.Proofs.Ytakonlfojblcmaa

namespace Go.Proofs.Ytakonlfojblcmaa
open Go.RowKit Cw
attribute [local go_sem] Oper.semAt_some

set_option maxHeartbeats 1000000 in
theorem few19_any (A : Option Addr) (n c : Nat) (w : World) : Calls Try.prog 21 #[.slice A n c] w fun e w' => e = .returned (.bool (decide ((n : Int) ≤ 20))) ∧ w = w' := by
  go_enter Try.func21, Try.ntmps21
  go_wp2_with (fail)
  go_ret
  exact ⟨rfl, rfl⟩
set_option maxRecDepth 100000 in
set_option maxHeartbeats 8000000 in
theorem altDimL (P M : Int) (ml : List Int) (A : Option Addr) (c : Nat) (Q N K : Int) (nl pts mul : List Int) (B A1 A2 : Option Addr) (b c1 c2 : Nat) (w : World) (hP : I64 P) (hM : I64 M) (hl : ml.length ≤ maxLen) (hr : Rd w w.heap.size A ml)
    (hQ : I64 Q) (hN : I64 N) (_hK : I64 K) (hn : nl.length ≤ maxLen) (hc1 : pts.length ≤ c1 ∧ c1 ≤ maxLen) (hc2 : mul.length ≤ c2 ∧ c2 ≤ maxLen) (_hi : ∀ x ∈ pts, I64 x) (_hj : ∀ x ∈ mul, I64 x) (hrB : Rd w w.heap.size B nl) (hr1 : Rd w w.heap.size A1 pts) (hr2 : Rd w w.heap.size A2 mul) :
    Calls Try.prog 6 #[.agg #[.int .i64 P, .int .i64 M, .slice A ml.length c], .agg #[.int .i64 Q, .int .i64 N, .slice B nl.length b, .int .i64 K, .slice A1 pts.length c1, .slice A2 mul.length c2]] w fun e w' => e = .returned (.bool true) ∧ Below w.heap.size w w' := by
  have hpl : pts.length ≤ maxLen := Nat.le_trans hc1.1 hc1.2
  have hml : mul.length ≤ maxLen := Nat.le_trans hc2.1 hc2.2
  obtain ⟨s, hs⟩ : ∃ s, s = w.heap.size := ⟨_, rfl⟩
  obtain ⟨Z, hZ⟩ : ∃ Z, Z = (w.alloc (.cells #[.int .i64 P, .int .i64 M, .slice A ml.length c] 24)).alloc (.cells #[.int .i64 Q, .int .i64 N, .slice B nl.length b, .int .i64 K, .slice A1 pts.length c1, .slice A2 mul.length c2] 26) := ⟨_, rfl⟩
  have hB : Below w.heap.size w Z := by rw [hZ]; exact ((Below.refl _ _).alloc (Nat.le_refl _) _).alloc (by simp) _
  have hbA : Hid (Bxs Z s [.int .i64 P, .int .i64 M, .slice A ml.length c]) := by rw [hZ, hs]; exact (Bxs.new w _ _).keep ((Below.refl _ _).alloc (Nat.le_refl _) _) (by simp)
  have hbG : Hid (Bxs Z (s + 1) [.int .i64 Q, .int .i64 N, .slice B nl.length b, .int .i64 K, .slice A1 pts.length c1, .slice A2 mul.length c2]) := by rw [hZ, hs]; have := Bxs.new (w.alloc (.cells #[.int .i64 P, .int .i64 M, .slice A ml.length c] 24)) [.int .i64 Q, .int .i64 N, .slice B nl.length b, .int .i64 K, .slice A1 pts.length c1, .slice A2 mul.length c2] 26; rw [World.size_alloc] at this; exact this
  have hZs : s + 1 < Z.heap.size := by rw [hZ, hs]; simp
  have hq := Lib.hid (alive19_any Z)
  have hfe := fun W => Lib.hid (few19_any A1 pts.length c1 W)
  replace hZ := Lib.hid hZ
  go_enter Try.func6, Try.ntmps6
  go_wp2_with (fail)
  rw [← hZ.out]
  simp only [← hs]
  have hsw : w.heap.size ≤ s := Nat.le_of_eq hs.symm
  replace hs := Lib.hid hs
  (with_reducible refine hq.out.mono ?_)
  rintro e w1 ⟨rfl, hb1⟩
  clear hq
  have hB1 := hB.trans (hb1.mono hB.size)
  have hs1 : s + 1 < w1.heap.size := Nat.lt_of_lt_of_le hZs hb1.size
  obtain ⟨E, hC, hE⟩ := Chk19_any P M Q N K ml nl pts mul A B A1 A2 c b c1 c2 w1 hP hM hQ hN hl hn hml ((hr.below hB1).more hB1.size) ((hrB.below hB1).more hB1.size) ((hr1.below hB1).more hB1.size) ((hr2.below hB1).more hB1.size)
  replace hC := Lib.hid hC
  replace hE := Lib.hid hE
  have hq1 := hfe w1
  clear hfe
  obtain ⟨a0, a1, a2⟩ := (hbA.out.keep hb1 (by omega)).c3
  obtain ⟨d0, d1, d2, d3, d4, d5⟩ := (hbG.out.keep hb1 hZs).c6
  by_cases h20 : (pts.length : Int) ≤ 20
  rotate_left
  · rw [decide_eq_false h20] at hq1
    replace h20 := Lib.hid h20
    replace hq1 := Lib.hid hq1.out
    go_wp2_with (fail)
    (with_reducible refine hq1.out.mono ?_)
    rintro e w2 ⟨rfl, rfl⟩
    go_wp2_with (fail)
    go_ret
    exact ⟨rfl, hB1⟩
  rw [decide_eq_true h20] at hq1
  replace h20 := Lib.hid h20
  replace hq1 := Lib.hid hq1.out
  go_wp2_with (fail)
  (with_reducible refine hq1.out.mono ?_)
  rintro e w2 ⟨rfl, rfl⟩
  go_wp2_with (fail)
  (with_reducible refine hC.out.mono ?_)
  rintro e w2 ⟨rfl, hb2⟩
  clear hC hq1 a0 a1 a2 d0 d1 d2 d3 d4 d5
  have hbz2 := hb1.trans (hb2.mono hb1.size)
  have hB2 := hB.trans (hbz2.mono hB.size)
  by_cases h0 : E = 0
  rotate_left
  · have h0b : (E != 0) = true := by rw [bne_iff_ne]; exact h0
    replace h0 := Lib.hid h0
    go_wp2_with (fail)
    go_ret
    exact ⟨rfl, hB2⟩
  have h0b : (E != 0) = false := by rw [bne_eq_false_iff_eq]; exact h0
  obtain ⟨S', D', rfl, rfl, rfl, rfl, rfl, rfl, hgS, hgD, hz, hf⟩ := hE.out h0
  obtain ⟨S, rfl⟩ := good_FD hgS
  obtain ⟨-, hn64, hlen, -, -, -, -, hK0, hKn⟩ := gchkD_zero hz
  have hn1 := (gchkD_zero hz).1
  obtain ⟨kn, rfl⟩ : ∃ kn : Nat, K = (kn : Int) := ⟨K.toNat, by omega⟩
  have hq := aCode_ok S D' kn pts mul A B A1 A2 c b c1 c2 w2 ((hr.below hB2).more hB2.size) ((hrB.below hB2).more hB2.size) hgS hgD ((hr1.below hB2).more hB2.size) ((hr2.below hB2).more hB2.size) hz hf hc1.1 hc1.2
  rw [← modL_length S.toDesc, ← modL_length D'] at hq
  replace hq := Lib.hid hq
  replace h0 := Lib.hid h0
  have hzH := Lib.hid hz
  replace hlen := Lib.hid hlen
  obtain ⟨a0, a1, a2⟩ := (hbA.out.keep hbz2 (by omega)).c3
  obtain ⟨d0, d1, d2, d3, d4, d5⟩ := (hbG.out.keep hbz2 hZs).c6
  go_wp2_with (fail)
  (with_reducible refine hq.out.mono ?_)
  rintro e w3 ⟨F, rt, rfl, hrt, k, C, A3, c3, Al, rfl, hvc, hsp, hdim, -, -, -, hb3⟩
  clear hq a0 a1 a2 d0 d1 d2 d3 d4 d5
  have hkup : k ≤ kn := alt_dim hzH.out hvc.can hsp
  have hkn : kn ≤ pts.length := by omega
  obtain ⟨dd, hdd⟩ : ∃ dd, dd = F.m / S.m := ⟨_, rfl⟩
  rw [← hdd] at hdim
  have hdd8 : dd ≤ 8 := by rw [hdd]; exact Nat.le_trans (Nat.div_le_self _ _) F.m8
  have hSm := S.m1
  have hm0 : ¬ (S.m : Int) = 0 := by omega
  have hm0' : ¬ S.m = 0 := by omega
  have hquo : (F.m : Int).tdiv (S.m : Int) = (dd : Int) := by rw [hdd]; rfl
  have hprod : (pts.length - kn) * dd ≤ 512 := Nat.le_trans (Nat.mul_le_mul (show pts.length - kn ≤ 64 by omega) hdd8) (by decide)
  obtain ⟨pr, hpr⟩ : ∃ pr, pr = (pts.length - kn) * dd := ⟨_, rfl⟩
  rw [← hpr] at hdim hprod
  have w1a : IntKind.i64.wrap ((pts.length : Int) - (kn : Int)) = (pts.length : Int) - (kn : Int) := by rw [IntWalk.i64_in _ (by omega)]
  have hprI : (dd : Int) * ((pts.length : Int) - (kn : Int)) = (pr : Int) := by
    rw [hpr, Int.natCast_mul, Int.mul_comm, Int.ofNat_sub hkn]
  have w1b : IntKind.i64.wrap (pr : Int) = (pr : Int) := by rw [IntWalk.i64_in _ (by omega)]
  have w1c : IntKind.i64.wrap ((pts.length : Int) - (pr : Int)) = (pts.length : Int) - (pr : Int) := by rw [IntWalk.i64_in _ (by omega)]
  have w1d : IntKind.i64.wrap (dd : Int) = (dd : Int) := by rw [IntWalk.i64_in _ (by omega)]
  have t1 : decide ((pts.length : Int) - (pr : Int) ≤ (k : Int)) = true := decide_eq_true (by omega)
  have t2 : decide ((k : Int) ≤ (kn : Int)) = true := decide_eq_true (by omega)
  obtain ⟨Y, hY⟩ : ∃ Y, Y = w3.alloc (.cells #[.int .i64 S.p, .int .i64 S.m, .slice A3 S.mod.length c3, .int .i64 pts.length, .slice Al k k] 54) := ⟨_, rfl⟩
  have hbY : Below w3.heap.size w3 Y := by rw [hY]; exact (Below.refl _ _).alloc (Nat.le_refl _) _
  have hbzY := (hbz2.trans (hb3.mono hbz2.size)).trans (hbY.mono (hbz2.trans (hb3.mono hbz2.size)).size)
  obtain ⟨pc, hpc⟩ : ∃ pc, pc = w3.heap.size := ⟨_, rfl⟩
  have hbC : Bxs Y pc [.int .i64 S.p, .int .i64 S.m, .slice A3 S.mod.length c3, .int .i64 pts.length, .slice Al k k] := by rw [hY, hpc]; exact Bxs.new w3 _ _
  have hS0 : Hid (Y.cell? ⟨pc, 3, none⟩ = some (.int .i64 pts.length) ∧ Y.cell? ⟨pc, 4, none⟩ = some (.slice Al k k) ∧ Y.cell? ⟨s, 1, none⟩ = some (.int .i64 S.m) ∧ Y.cell? ⟨s + 1, 1, none⟩ = some (.int .i64 F.m) ∧ Y.cell? ⟨s + 1, 3, none⟩ = some (.int .i64 (kn : Int))) := ⟨hbC.c5.2.2.2.1, hbC.c5.2.2.2.2, (hbA.out.keep hbzY (by omega)).c3.2.1, (hbG.out.keep hbzY hZs).c6.2.1, (hbG.out.keep hbzY hZs).c6.2.2.2.1⟩
  have hfin := Lib.hid (hB.trans (hbzY.mono hB.size))
  obtain ⟨d0, d1, d2, d3, d4, d5⟩ := (hbG.out.keep hbzY hZs).c6
  rw [hY] at d4
  replace hY := Lib.hid hY
  replace hdd := Lib.hid hdd
  replace hpr := Lib.hid hpr
  replace hpc := Lib.hid hpc
  clear hvc hsp hdim hbC
  go_wp2_with (fail)
  rw [← hY.out]
  simp only [← hpc.out]
  clear d0 d1 d2 d3 d4 d5
  refine wp_region_held_drew (S := fun w' => w'.cell? ⟨pc, 3, none⟩ = some (.int .i64 pts.length) ∧ w'.cell? ⟨pc, 4, none⟩ = some (.slice Al k k) ∧ w'.cell? ⟨s, 1, none⟩ = some (.int .i64 S.m) ∧ w'.cell? ⟨s + 1, 1, none⟩ = some (.int .i64 F.m) ∧ w'.cell? ⟨s + 1, 3, none⟩ = some (.int .i64 (kn : Int))) (by kernel_rfl) (by (try dsimp only); exact hS0.out) (fun hHeld => ?_)
  refine tk 0 ?_; try simp only [pS]
  refine tk 1 ?_; try simp only [pS]
  refine tk 2 ?_; try simp only [pS]
  refine tk 3 ?_; try simp only [pS]
  refine tk 4 ?_; try simp only [pS]
  refine tk 5 ?_; try simp only [pS]
  refine tk 6 ?_; try simp only [pS]
  refine tk 7 ?_; try simp only [pS]
  refine tk 8 ?_; try simp only [pS]
  refine tk 9 ?_; try simp only [pS]
  refine tk 10 ?_; try simp only [pS]
  refine tk 11 ?_; try simp only [pS]
  refine tk 12 ?_; try simp only [pS]
  refine tk 13 ?_; try simp only [pS]
  refine tk 14 ?_; try simp only [pS]
  refine tk 15 ?_; try simp only [pS]
  refine tk 16 ?_; try simp only [pS]
  refine tk 17 ?_; try simp only [pS]
  refine tk 18 ?_; try simp only [pS]
  refine tk 19 ?_; try simp only [pS]
  refine tk 20 ?_; try simp only [pS]
  refine tk 21 ?_; try simp only [pS]
  refine tk 22 ?_; try simp only [pS]
  refine tk 23 ?_; try simp only [pS]
  refine tk 24 ?_; try simp only [pS]
  refine tk 25 ?_; try simp only [pS]
  refine tk 26 ?_; try simp only [pS]
  refine tk 27 ?_; try simp only [pS]
  refine tk 28 ?_; try simp only [pS]
  refine tk 29 ?_; try simp only [pS]
  refine tk 30 ?_; try simp only [pS]
  refine tk 31 ?_; try simp only [pS]
  refine tk 32 ?_; try simp only [pS]
  refine tk 33 ?_; try simp only [pS]
  refine tk 34 ?_; try simp only [pS]
  refine tk 35 ?_; try simp only [pS]
  refine wpAnyH_done (by kernel_rfl) ?_ _
  go_wp2_with (fail)
  go_ret
  exact ⟨rfl, hfin.out.drew⟩
end Go.Proofs.Ytakonlfojblcmaa
